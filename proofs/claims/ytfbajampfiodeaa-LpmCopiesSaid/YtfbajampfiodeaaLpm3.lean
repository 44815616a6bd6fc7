/- lpm.Index: Find, Put, Del, walked by hand. lpm.Index: New, Keys, nil ones, walked by hand. lpm.Index: Copy, walked by hand. -/
import Derived.Test.YtfbajampfiodeaaLpm2
import Derived.Test.YtfbajampfiodeaaHashKeys
namespace Go.Proofs.Ytfbajampfiodeaa.LpmX
open Go.RowKit Go.Proofs.Ytfbajampfiodeaa.PArrayPlays Go.Proofs.YtfbajampfiodeaaW.PrintWords Go.Proofs.YtfbajampfiodeaaW.PrintLast Go.Proofs.YtfbajampfiodeaaW.PrintMore Go.Proofs.Ytfbajampfiodeaa.Mw Go.Proofs.Ytfbajampfiodeaa.Rx Go.Proofs.Ytfbajampfiodeaa.RxOps Go.Proofs.Ytfbajampfiodeaa.RxPut Go.Proofs.Ytfbajampfiodeaa.LpmB Go.Proofs.Ytfbajampfiodeaa.LpmF Go.Proofs.Ytfbajampfiodeaa.LpmC Go.Proofs.Ytfbajampfiodeaa.LpmT Go.Proofs.Ytfbajampfiodeaa.LpmD Go.Proofs.Ytfbajampfiodeaa.LpmW
set_option linter.unusedVariables false
attribute [local go_sem] max2_int min2_int max_two min_two max_three min_three max_four min_four
section
variable {w : World} {F : Nat → Prop} {g gk : Nat} {sz : Int} {ks : List (Option (List Int))} {N : Nodes}
theorem length_in {P : (List Int → Int) → Prop} (h : PIxP P w F g gk sz ks N) (A : Option Addr) (c : Nat) (l : List Int) (hC : Kd.C (Kd.int .u8) w A l.length l) (hlc : l.length ≤ c) (hin : InOk sz l) :
    Calls Try.prog 71 #[.pointer (some ⟨g, 0, none⟩), .slice A l.length c] w fun e w' => e = .returned (.int .i64 (nb l)) ∧ ∃ n, w' = w.drewN n := by
  have := length_ok h A c l hC hlc hin.1 hin.2.1
  rw [if_pos hin.2.2] at this
  exact this
theorem length_no {P : (List Int → Int) → Prop} (h : PIxP P w F g gk sz ks N) (A : Option Addr) (c : Nat) (l : List Int) (hC : Kd.C (Kd.int .u8) w A l.length l) (hlc : l.length ≤ c) (hb : Bs l) (hin : ¬ InOk sz l) :
    Calls Try.prog 71 #[.pointer (some ⟨g, 0, none⟩), .slice A l.length c] w fun e w' => e = .returned (.int .i64 (-1)) ∧ ∃ n, w' = w.drewN n := by
  by_cases hl : (l.length : Int) = sz
  · have := length_ok h A c l hC hlc hl hb
    rw [if_neg (fun h2 => hin ⟨hl, hb, h2⟩)] at this
    exact this
  · exact (length_len h A l.length c hl).mono fun e w' ⟨h1, h2⟩ => ⟨h1, 0, h2 ▸ rfl⟩
theorem Find_bad (h : PIx w F g gk sz ks N) (A : Option Addr) (c : Nat) (l : List Int) (hC : Kd.C (Kd.int .u8) w A l.length l) (hlc : l.length ≤ c) (hb : Bs l) (hin : ¬ InOk sz l) :
    Calls Try.prog 52 #[.pointer (some ⟨g, 0, none⟩), .slice A l.length c] w fun e w' => e = .returned (.tuple #[.int .i64 0, .bool false]) ∧ ∃ n, w' = w.drewN n := by
  have HL := Lib.hid (length_no h A c l hC hlc hb hin)
  obtain ⟨c1, r, s0, h0, g0, g1, g2, hc1⟩ := h.cells
  clear h hC hin g0 g2 hb
  go_enter Try.func52, Try.ntmps52
  go_wp2_with fail
  refine HL.out.mono ?_
  rintro e w1 ⟨rfl, n, rfl⟩
  have g1' : ∀ m, (w.drewN m).cell? ⟨g, 1, none⟩ = some (.pointer (some ⟨r, 0, none⟩)) := fun _ => g1
  clear HL
  go_wp2
  go_region
  go_wp2
  go_loop [7, 8, 9] (fun b i p => b = .int .i64 (-1) ∧ i = .int .i64 0) (fun _ _ _ => 0)
  case atStart => exact ⟨rfl, rfl⟩
  case round =>
    obtain ⟨rfl, rfl⟩ := hrel
    go_wp2
    go_ret2
    exact ⟨rfl, ⟨_, rfl⟩⟩
/-- On the way: the place, and the best so far. -/
structure Way (N : Nodes) (p : List Int) (m k : Nat) (at_ : Value) (best : Int) : Prop where
  at_ : at_ = ptr (N (p.take k))
  best : best = bestTo (slotOf N) p k
theorem up_far {w : World} {F : Nat → Prop} {N : Nodes} (h : Tree w F N) (p : List Int) (k : Nat) (hn : N (p.take k) = none) : ∀ j, k ≤ j → N (p.take j) = none := by
  intro j
  induction j with
  | zero => intro hj; rw [show (0 : Nat) = k by omega]; exact hn
  | succ j ih =>
    intro hj
    by_cases e : k = j + 1
    · rw [← e]; exact hn
    · have h1 := ih (by omega)
      by_cases hlt : j < p.length
      · rw [List.take_add_one, List.getElem?_eq_getElem hlt]
        exact h.up _ _ h1
      · rw [List.take_of_length_le (by omega)]
        rwa [List.take_of_length_le (by omega)] at h1
theorem best_stop {w : World} {F : Nat → Prop} {N : Nodes} (h : Tree w F N) (p : List Int) (k : Nat) (hn : N (p.take k) = none) : ∀ m, k ≤ m → bestTo (slotOf N) p m = bestTo (slotOf N) p k := by
  intro m
  induction m with
  | zero => intro hm; rw [show k = 0 by omega]
  | succ m ih =>
    intro hm
    by_cases e : k = m + 1
    · rw [e]
    · have h1 := up_far h p k hn m (by omega)
      rw [bestTo, slotOf_none h1, if_neg (by omega)]
      exact ih (by omega)
theorem Find_ (h : PIx w F g gk sz ks N) (A : Option Addr) (c : Nat) (l : List Int) (hC : Kd.C (Kd.int .u8) w A l.length l) (hlc : l.length ≤ c) (hin : InOk sz l) :
    Calls Try.prog 52 #[.pointer (some ⟨g, 0, none⟩), .slice A l.length c] w fun e w' => e = .returned (.tuple #[.int .i64 (max (find3 ks l) 0), .bool (decide (0 ≤ find3 ks l))]) ∧ ∃ n, w' = w.drewN n := by
  have HL := Lib.hid (length_in h A c l hC hlc hin)
  have H := Lib.hid h
  have HIN := Lib.hid hin
  have HC := Lib.hid hC
  have hsz := h.szs
  have hnb := nb_bounds hin.2.1
  have hnl := hin.2.2
  have hl1 := hin.1
  obtain ⟨m, hm⟩ : ∃ m : Nat, nb l = (m : Int) := ⟨(nb l).toNat, by omega⟩
  have HM : Hid (m = (nb l).toNat) := Lib.hid (by omega)
  have HBEST : Hid (bestTo (slotOf N) (path l) (m + 1) = find3 ks l) := Lib.hid (by rw [HM.out]; exact best_find h.ok hin h.slots)
  rw [hm] at hnl HL
  obtain ⟨c1, r, s0, h0, g0, g1, g2, hc1⟩ := h.cells
  have HR0 : Hid (ptr (N ((path l).take 0)) = .pointer (some ⟨r, 0, none⟩)) := Lib.hid (by rw [List.take_zero, h0]; rfl)
  obtain ⟨nl, hnl2⟩ : ∃ n, n = l.length := ⟨_, rfl⟩
  have HNL := Lib.hid hnl2
  rw [← hnl2] at hlc hl1 HL ⊢
  clear h h0 hC hin g0 g2 hm hnb hnl2 hc1
  generalize find3 ks l = res at *
  go_enter Try.func52, Try.ntmps52
  go_wp2_with fail
  refine HL.out.mono ?_
  rintro e w1 ⟨rfl, n, rfl⟩
  have g1' : ∀ m, (w.drewN m).cell? ⟨g, 1, none⟩ = some (.pointer (some ⟨r, 0, none⟩)) := fun _ => g1
  clear HL g1
  go_wp2
  go_region
  clear g1'
  go_wp2
  go_loopw [7, 8, 9] (fun b i p wr => ∃ (k : Nat) (best : Int), k ≤ m + 1 ∧ b = .int .i64 best ∧ i = .int .i64 (k : Int) ∧ Hid (best = bestTo (slotOf N) (path l) k) ∧ Hid (k ≤ m → p = ptr (N ((path l).take k))) ∧ Hid (∃ v, p = .pointer v) ∧ Hid (∃ n, wr = w.drewN n)) (fun _ i _ _ => m + 1 - (intOf i).toNat)
  case atStart => exact ⟨0, -1, by omega, rfl, rfl, Lib.hid rfl, Lib.hid (fun _ => HR0.out.symm), Lib.hid ⟨_, rfl⟩, Lib.hid ⟨_, rfl⟩⟩
  case round =>
    clear HR0
    obtain ⟨k, best, hk, rfl, rfl, HBE, HP, HV, HW⟩ := hrel
    obtain ⟨nw, rfl⟩ := HW.out
    obtain ⟨pv, rfl⟩ := HV.out
    by_cases hkm : k ≤ m
    · have hp := HP.out hkm
      cases hn : N ((path l).take k) with
      | none =>
        rw [hn] at hp
        obtain rfl : pv = none := by simpa [ptr] using hp
        have HF : Hid (best = res) := Lib.hid (by rw [HBE.out, ← HBEST.out, best_stop H.out.tree _ _ hn (m + 1) hk])
        clear hp hn
        by_cases hb : 0 ≤ best
        · have a1 : decide (0 ≤ best) = true := decide_eq_true hb
          have a2 : max best 0 = best := by omega
          go_wp2
          go_ret2
          exact ⟨by rw [← HF.out, a1, a2]; rfl, ⟨_, rfl⟩⟩
        · have a1 : decide (0 ≤ best) = false := decide_eq_false hb
          have a2 : max best 0 = 0 := by omega
          go_wp2
          go_ret2
          exact ⟨by rw [← HF.out, a1, a2]; rfl, ⟨_, rfl⟩⟩
      | some v =>
        obtain ⟨b, s⟩ := v
        rw [hn] at hp
        obtain rfl : pv = some ⟨b, 0, none⟩ := by simpa [ptr] using hp
        have HN := Lib.hid hn
        have s2 : ∀ n, (w.drewN n).cell? ⟨b, 2, none⟩ = some (.int .i64 s) := fun n => (H.out.tree.cells hn).2.2.1
        clear hp hn HP HV HW
        by_cases hs : 0 ≤ s
        · have hs' : s ≥ 0 := hs
          have HB2 : Hid (s = bestTo (slotOf N) (path l) (k + 1)) := Lib.hid (by rw [bestTo, slotOf_some HN.out, if_pos hs])
          by_cases hlt : k < m
          · have hki : 4 + k / 8 < l.length := by rw [← HNL.out]; omega
            have HB := Lib.hid (fun q => bit_ (w.drewN q) A c l (Kd.C_drewN HC.out q) (by rw [← HNL.out]; exact hlc) HIN.out.2.1 k hki (by rw [← HNL.out]; omega))
            rw [← HNL.out] at HB
            have htk : Hid ((path l).take (k + 1) = (path l).take k ++ [LpmB.bt l k]) := Lib.hid (by rw [List.take_add_one, path_get (by have := HM.out; omega)]; rfl)
            have hbt := bt_or l k
            generalize LpmB.bt l k = x at *
            obtain ⟨pv2, hpv⟩ : ∃ v, ptr (N ((path l).take k ++ [x])) = .pointer v := by unfold ptr; split <;> exact ⟨_, rfl⟩
            have g3 : ∀ n, (w.drewN n).cell? ⟨b, x.toNat, none⟩ = some (.pointer pv2) := fun n => by rw [← hpv]; exact H.out.tree.kid HN.out hbt
            have HPV : Hid (Value.pointer pv2 = ptr (N ((path l).take (k + 1)))) := Lib.hid (by rw [htk.out, hpv])
            clear hki hpv
            go_wp2_with fail
            go_region_with (go_at_call 75; refine ((HB.out _).mono ?_); rintro e w2 ⟨rfl, n2, rfl⟩)
            go_wp2
            go_roundw
            case rel => exact ⟨k + 1, s, by omega, rfl, by go_num, HB2, Lib.hid (fun _ => HPV.out), Lib.hid ⟨_, rfl⟩, Lib.hid ⟨_, rfl⟩⟩
            case measure => simp [intOf]; omega
          · go_wp2
            go_roundw
            case rel => exact ⟨k + 1, s, by omega, rfl, by go_num, HB2, Lib.hid (fun h => absurd h (by omega)), Lib.hid ⟨_, rfl⟩, Lib.hid ⟨_, rfl⟩⟩
            case measure => simp [intOf]; omega
        · have hs' : ¬ s ≥ 0 := hs
          have HB2 : Hid (best = bestTo (slotOf N) (path l) (k + 1)) := Lib.hid (by rw [bestTo, slotOf_some HN.out, if_neg hs]; exact HBE.out)
          by_cases hlt : k < m
          · have hki : 4 + k / 8 < l.length := by rw [← HNL.out]; omega
            have HB := Lib.hid (fun q => bit_ (w.drewN q) A c l (Kd.C_drewN HC.out q) (by rw [← HNL.out]; exact hlc) HIN.out.2.1 k hki (by rw [← HNL.out]; omega))
            rw [← HNL.out] at HB
            have htk : Hid ((path l).take (k + 1) = (path l).take k ++ [LpmB.bt l k]) := Lib.hid (by rw [List.take_add_one, path_get (by have := HM.out; omega)]; rfl)
            have hbt := bt_or l k
            generalize LpmB.bt l k = x at *
            obtain ⟨pv2, hpv⟩ : ∃ v, ptr (N ((path l).take k ++ [x])) = .pointer v := by unfold ptr; split <;> exact ⟨_, rfl⟩
            have g3 : ∀ n, (w.drewN n).cell? ⟨b, x.toNat, none⟩ = some (.pointer pv2) := fun n => by rw [← hpv]; exact H.out.tree.kid HN.out hbt
            have HPV : Hid (Value.pointer pv2 = ptr (N ((path l).take (k + 1)))) := Lib.hid (by rw [htk.out, hpv])
            clear hki hpv
            go_wp2_with fail
            go_region_with (go_at_call 75; refine ((HB.out _).mono ?_); rintro e w2 ⟨rfl, n2, rfl⟩)
            go_wp2
            go_roundw
            case rel => exact ⟨k + 1, best, by omega, rfl, by go_num, HB2, Lib.hid (fun _ => HPV.out), Lib.hid ⟨_, rfl⟩, Lib.hid ⟨_, rfl⟩⟩
            case measure => simp [intOf]; omega
          · go_wp2
            go_roundw
            case rel => exact ⟨k + 1, best, by omega, rfl, by go_num, HB2, Lib.hid (fun h => absurd h (by omega)), Lib.hid ⟨_, rfl⟩, Lib.hid ⟨_, rfl⟩⟩
            case measure => simp [intOf]; omega
    · have hkm2 : k = m + 1 := by omega
      subst hkm2
      have HF : Hid (best = res) := Lib.hid (by rw [HBE.out, ← HBEST.out])
      by_cases hb : 0 ≤ best
      · have a1 : decide (0 ≤ best) = true := decide_eq_true hb
        have a2 : max best 0 = best := by omega
        go_wp2
        go_ret2
        exact ⟨by rw [← HF.out, a1, a2]; rfl, ⟨_, rfl⟩⟩
      · have a1 : decide (0 ≤ best) = false := decide_eq_false hb
        have a2 : max best 0 = 0 := by omega
        go_wp2
        go_ret2
        exact ⟨by rw [← HF.out, a1, a2]; rfl, ⟨_, rfl⟩⟩
theorem far_cell {w : World} {p : Addr} {v : Value} {b t : Nat} {cs : Array Value} {t' : TypeId} {cs' : Array Value} (hp : w.heap[p.block]? = some (.cells cs' t' (0, 0))) (hb : w.heap[b]? = some (.cells cs t (0, 0))) (ht : t ≠ t') : (w.setCell p v).heap[b]? = w.heap[b]? :=
  Below.heap_setCell w p v b (blk_ne hb hp ht)
/-- A slot's key and the node's slot are set. -/
theorem PIx.put (h : PIx w F g gk sz ks N) {l : List Int} (hin : InOk sz l) {b i b5 c5 : Nat} (hN : N (path l) = some (b, -1)) (hi : ks[i]? = some none) (hrow : Row w b5 5 ((cut l).map (Value.int .u8))) (hb5 : F b5) (hc5 : l.length ≤ c5) :
    PIx ((w.setCell ⟨gk, i, none⟩ (.slice (some ⟨b5, 0, none⟩) l.length c5)).setCell ⟨b, 2, none⟩ (.int .i64 (i : Int))) F g gk sz (ks.set i (some (cut l))) (upd N (path l) (b, (i : Int))) := by
  obtain ⟨c, r, s0, h0, hs, hc⟩ := h.self
  obtain ⟨vs, hv, ⟨rr, hrr⟩, hkv⟩ := h.row
  obtain ⟨hFb, hb⟩ := h.tree.at_ _ _ _ hN
  have hsz := h.szs
  have hl1 := hin.1
  have hil := (List.getElem?_eq_some_iff.1 hi).1
  have hcl : (cut l).length = l.length := cut_len (by omega)
  have hgk : ∀ (b' : Nat) (t : TypeId) (cs : Array Value), w.heap[b']? = some (.cells cs t (0, 0)) → t ≠ 32 → (w.setCell ⟨gk, i, none⟩ (.slice (some ⟨b5, 0, none⟩) l.length c5)).heap[b']? = w.heap[b']? := fun b' t cs hb' ht => far_cell hrr hb' ht
  have hnd := (hgk b _ _ hb (by decide)).trans hb
  have hT : Tree (w.setCell ⟨gk, i, none⟩ (.slice (some ⟨b5, 0, none⟩) l.length c5)) F N := h.tree.keep fun b' cs hb' _ => hgk b' _ cs hb' (by decide)
  have far : ∀ (b' : Nat) (t : TypeId) (cs : Array Value), w.heap[b']? = some (.cells cs t (0, 0)) → t ≠ 32 → t ≠ 114 → ((w.setCell ⟨gk, i, none⟩ (.slice (some ⟨b5, 0, none⟩) l.length c5)).setCell ⟨b, 2, none⟩ (.int .i64 (i : Int))).heap[b']? = w.heap[b']? := fun b' t cs hb' h1 h2 =>
    (far_cell (w := w.setCell ⟨gk, i, none⟩ (.slice (some ⟨b5, 0, none⟩) l.length c5)) (p := ⟨b, 2, none⟩) hnd ((hgk b' t cs hb' h1).trans hb') h2).trans (hgk b' t cs hb' h1)
  have hroot : ∃ s', upd N (path l) (b, (i : Int)) [] = some (r, s') := by
    by_cases e : [] = path l
    · rw [← e] at hN ⊢
      rw [h0] at hN
      cases hN
      exact ⟨_, upd_same _ _ _⟩
    · exact ⟨s0, by rw [upd_ne e]; exact h0⟩
  obtain ⟨s', hs'⟩ := hroot
  have hpc : path (cut l) = path l := path_cut (by omega) (by rw [hl1]; exact hin.2.2)
  refine ⟨⟨c, r, s', hs', ?_, by rw [List.length_set]; exact hc⟩, ⟨vs.set i (.slice (some ⟨b5, 0, none⟩) l.length c5), by rw [List.length_set, List.length_set]; exact hv, ?_, fun j u k h1 h2 => ?_⟩, hT.slot hN _, h.slots.put hi (by rw [hpc]; exact slotOf_some hN) (by rw [hpc]; exact slotOf_upd _ _ _ _) (fun q hq => slotOf_upd_ne (by rw [hpc] at hq; exact hq)), h.inF, fun b' hb' => by simpa [World.setCell] using h.lt b' hb', by rw [List.length_set]; exact h.len, h.szs, h.ok.set_ i _ (fun l' e => by cases e; exact cutOk hin hsz.1)⟩
  · rw [List.length_set]
    exact (far g _ _ hs (by decide) (by decide)).trans hs
  · have h1 : Row (w.setCell ⟨gk, i, none⟩ (.slice (some ⟨b5, 0, none⟩) l.length c5)) gk 32 (vs.set i _) := Row.set_ ⟨rr, hrr⟩ i (by omega) _
    obtain ⟨r2, h2⟩ := h1
    exact ⟨r2, (far_cell (w := w.setCell ⟨gk, i, none⟩ (.slice (some ⟨b5, 0, none⟩) l.length c5)) (p := ⟨b, 2, none⟩) hnd h2 (by decide)).trans h2⟩
  · by_cases hj : i = j
    · subst hj
      rw [List.getElem?_set_self (by omega)] at h1 h2
      cases h1; cases h2
      refine ⟨b5, c5, by rw [hcl], by rw [hcl]; exact hc5, hb5, ?_⟩
      obtain ⟨r5, h5⟩ := hrow
      exact ⟨r5, (far b5 _ _ h5 (by decide) (by decide)).trans h5⟩
    · rw [List.getElem?_set_ne hj] at h1 h2
      exact (hkv j u k h1 h2).keep fun b' cs hb' _ => far b' 5 cs hb' (by decide) (by decide)
/-- A key is taken out. -/
theorem PIx.del (h : PIx w F g gk sz ks N) {l : List Int} (hin : InOk sz l) {b i : Nat} (hN : N (path l) = some (b, (i : Int))) (hi : ks[i]? = some (some (cut l))) :
    PIx ((w.setCell ⟨b, 2, none⟩ (.int .i64 (-1))).setCell ⟨gk, i, none⟩ (.slice none 0 0)) F g gk sz (ks.set i none) (upd N (path l) (b, -1)) := by
  obtain ⟨c, r, s0, h0, hs, hc⟩ := h.self
  obtain ⟨vs, hv, ⟨rr, hrr⟩, hkv⟩ := h.row
  obtain ⟨hFb, hb⟩ := h.tree.at_ _ _ _ hN
  have hsz := h.szs
  have hl1 := hin.1
  have hil := (List.getElem?_eq_some_iff.1 hi).1
  have hnd : ∀ (b' : Nat) (t : TypeId) (cs : Array Value), w.heap[b']? = some (.cells cs t (0, 0)) → t ≠ 114 → (w.setCell ⟨b, 2, none⟩ (.int .i64 (-1))).heap[b']? = w.heap[b']? := fun b' t cs hb' ht => far_cell hb hb' ht
  have hgk := (hnd gk _ _ hrr (by decide)).trans hrr
  have far : ∀ (b' : Nat) (t : TypeId) (cs : Array Value), w.heap[b']? = some (.cells cs t (0, 0)) → t ≠ 32 → t ≠ 114 → ((w.setCell ⟨b, 2, none⟩ (.int .i64 (-1))).setCell ⟨gk, i, none⟩ (.slice none 0 0)).heap[b']? = w.heap[b']? := fun b' t cs hb' h1 h2 =>
    (far_cell (w := w.setCell ⟨b, 2, none⟩ (.int .i64 (-1))) (p := ⟨gk, i, none⟩) hgk ((hnd b' t cs hb' h2).trans hb') h1).trans (hnd b' t cs hb' h2)
  have hT := (h.tree.slot hN (-1)).keep (w' := (w.setCell ⟨b, 2, none⟩ (.int .i64 (-1))).setCell ⟨gk, i, none⟩ (.slice none 0 0)) fun b' cs hb' _ => far_cell (p := ⟨gk, i, none⟩) hgk hb' (by decide)
  have hroot : ∃ s', upd N (path l) (b, -1) [] = some (r, s') := by
    by_cases e : [] = path l
    · rw [← e] at hN ⊢
      rw [h0] at hN
      cases hN
      exact ⟨_, upd_same _ _ _⟩
    · exact ⟨s0, by rw [upd_ne e]; exact h0⟩
  obtain ⟨s', hs'⟩ := hroot
  have hpc : path (cut l) = path l := path_cut (by omega) (by rw [hl1]; exact hin.2.2)
  refine ⟨⟨c, r, s', hs', ?_, by rw [List.length_set]; exact hc⟩, ⟨vs.set i (.slice none 0 0), by rw [List.length_set, List.length_set]; exact hv, ?_, fun j u k h1 h2 => ?_⟩, hT, h.slots.del hi (by rw [hpc]; exact slotOf_upd _ _ _ _) (fun q hq => slotOf_upd_ne (by rw [hpc] at hq; exact hq)), h.inF, fun b' hb' => by simpa [World.setCell] using h.lt b' hb', by rw [List.length_set]; exact h.len, h.szs, h.ok.set_ i _ (fun l' e => by cases e)⟩
  · rw [List.length_set]
    exact (far g _ _ hs (by decide) (by decide)).trans hs
  · exact Row.set_ ⟨rr, hgk⟩ i (by omega) _
  · by_cases hj : i = j
    · subst hj
      rw [List.getElem?_set_self (by omega)] at h1 h2
      cases h1; cases h2
      rfl
    · rw [List.getElem?_set_ne hj] at h1 h2
      exact (hkv j u k h1 h2).keep fun b' cs hb' _ => far b' 5 cs hb' (by decide) (by decide)
theorem Put_bad (h : PIx w F g gk sz ks N) (A : Option Addr) (c : Nat) (l : List Int) (f : Int) (hC : Kd.C (Kd.int .u8) w A l.length l) (hlc : l.length ≤ c) (hb : Bs l) (hin : ¬ InOk sz l) :
    Calls Try.prog 49 #[.pointer (some ⟨g, 0, none⟩), .slice A l.length c, .int .u64 f] w fun e w' => e = .returned (.tuple #[.int .i64 0, .bool false, .int .i64 2]) ∧ ∃ n, w' = w.drewN n := by
  have HL := Lib.hid (length_no h A c l hC hlc hb hin)
  clear h hC hin hb
  go_enter Try.func49, Try.ntmps49
  go_wp2_with fail
  refine HL.out.mono ?_
  rintro e w1 ⟨rfl, n, rfl⟩
  go_wp2
  go_ret3
  exact ⟨rfl, ⟨_, rfl⟩⟩
theorem Put_flags (h : PIx w F g gk sz ks N) (A : Option Addr) (c : Nat) (l : List Int) (f : Int) (hC : Kd.C (Kd.int .u8) w A l.length l) (hlc : l.length ≤ c) (hin : InOk sz l) (hf : f > 2) :
    Calls Try.prog 49 #[.pointer (some ⟨g, 0, none⟩), .slice A l.length c, .int .u64 f] w fun e w' => e = .returned (.tuple #[.int .i64 0, .bool false, .int .i64 72]) ∧ ∃ n, w' = w.drewN n := by
  have HL := Lib.hid (length_in h A c l hC hlc hin)
  have hn0 : ¬ (nb l < 0) := by have := nb_bounds hin.2.1; omega
  clear h hC hin
  generalize nb l = q at *
  go_enter Try.func49, Try.ntmps49
  go_wp2_with fail
  refine HL.out.mono ?_
  rintro e w1 ⟨rfl, n, rfl⟩
  go_wp2
  go_ret3
  exact ⟨rfl, ⟨_, rfl⟩⟩
theorem at_then (h : PIx w F g gk sz ks N) (A : Option Addr) (c : Nat) (l : List Int) (hC : Kd.C (Kd.int .u8) w A l.length l) (hlc : l.length ≤ c) (hin : InOk sz l) (hA : ∀ ad, A = some ad → 0 < l.length → ¬ F ad.block) (n : Nat) :
    Calls Try.prog 72 #[.pointer (some ⟨g, 0, none⟩), .slice A l.length c, .int .i64 (nb l)] (w.drewN n) fun e w' => ∃ (b : Nat) (N' : Nodes) (F' : Nat → Prop), e = .returned (.pointer (some ⟨b, 0, none⟩)) ∧ N' (path l) = some (b, sameAt (cut l) ks 0) ∧ PIx w' F' g gk sz ks N' ∧ Step w w' F F' := by
  refine (at_ (h.drewN n) A c l (Kd.C_drewN hC n) hlc hin hA).mono fun e w' ⟨b, N', F', h1, h2, _, h3, h4⟩ => ⟨b, N', F', h1, ?_, h3, h4.undrewN⟩
  rw [h2, slot_same h.ok hin h.slots]
theorem Put_exist (h : PIx w F g gk sz ks N) (A : Option Addr) (c : Nat) (l : List Int) (hC : Kd.C (Kd.int .u8) w A l.length l) (hlc : l.length ≤ c) (hin : InOk sz l) (hA : ∀ ad, A = some ad → 0 < l.length → ¬ F ad.block) (i : Nat) (hs : sameAt (cut l) ks 0 = (i : Int)) :
    Calls Try.prog 49 #[.pointer (some ⟨g, 0, none⟩), .slice A l.length c, .int .u64 1] w fun e w' => e = .returned (.tuple #[.int .i64 0, .bool false, .int .i64 70]) ∧ ∃ F' N', PIx w' F' g gk sz ks N' ∧ Step w w' F F' := by
  have HL := Lib.hid (length_in h A c l hC hlc hin)
  have HAT := Lib.hid (at_then h A c l hC hlc hin hA)
  have hn0 : ¬ (nb l < 0) := by have := nb_bounds hin.2.1; omega
  clear h hC hin hA
  generalize nb l = q at *
  go_enter Try.func49, Try.ntmps49
  go_wp2_with fail
  refine HL.out.mono ?_
  rintro e w1 ⟨rfl, n, rfl⟩
  go_wp2_with fail
  refine (HAT.out n).mono ?_
  rintro e w2 ⟨b, N2, F2, rfl, hN2, hP2, hS2⟩
  obtain ⟨-, -, s2, sf⟩ := hP2.tree.cells hN2
  have HN2 := Lib.hid hN2; have HP2 := Lib.hid hP2; have HS2 := Lib.hid hS2
  clear hN2 hP2 hS2 HL HAT
  rw [hs] at s2
  clear hs sf
  go_wp2
  go_ret3
  exact ⟨rfl, F2, N2, HP2.out, HS2.out⟩
theorem Put_again (h : PIx w F g gk sz ks N) (A : Option Addr) (c : Nat) (l : List Int) (f : Int) (hC : Kd.C (Kd.int .u8) w A l.length l) (hlc : l.length ≤ c) (hin : InOk sz l) (hA : ∀ ad, A = some ad → 0 < l.length → ¬ F ad.block) (hf : ¬ f > 2) (hf1 : f ≠ 1) (i : Nat) (hs : sameAt (cut l) ks 0 = (i : Int)) :
    Calls Try.prog 49 #[.pointer (some ⟨g, 0, none⟩), .slice A l.length c, .int .u64 f] w fun e w' => e = .returned (.tuple #[.int .i64 (i : Int), .bool false, .int .i64 0]) ∧ ∃ F' N', PIx w' F' g gk sz ks N' ∧ Step w w' F F' := by
  have HL := Lib.hid (length_in h A c l hC hlc hin)
  have HAT := Lib.hid (at_then h A c l hC hlc hin hA)
  have hn0 : ¬ (nb l < 0) := by have := nb_bounds hin.2.1; omega
  clear h hC hin hA
  have bf : (f == 1) = false := by simpa using hf1
  clear hf1
  generalize nb l = q at *
  go_enter Try.func49, Try.ntmps49
  go_wp2_with fail
  refine HL.out.mono ?_
  rintro e w1 ⟨rfl, n, rfl⟩
  go_wp2_with fail
  refine (HAT.out n).mono ?_
  rintro e w2 ⟨b, N2, F2, rfl, hN2, hP2, hS2⟩
  obtain ⟨-, -, s2, sf⟩ := hP2.tree.cells hN2
  have HN2 := Lib.hid hN2; have HP2 := Lib.hid hP2; have HS2 := Lib.hid hS2
  clear hN2 hP2 hS2 HL HAT
  rw [hs] at s2
  clear hs sf
  go_wp2
  go_ret3
  exact ⟨rfl, F2, N2, HP2.out, HS2.out⟩
theorem Put_none (h : PIx w F g gk sz ks N) (A : Option Addr) (c : Nat) (l : List Int) (hC : Kd.C (Kd.int .u8) w A l.length l) (hlc : l.length ≤ c) (hin : InOk sz l) (hA : ∀ ad, A = some ad → 0 < l.length → ¬ F ad.block) (hs : sameAt (cut l) ks 0 = -1) :
    Calls Try.prog 49 #[.pointer (some ⟨g, 0, none⟩), .slice A l.length c, .int .u64 2] w fun e w' => e = .returned (.tuple #[.int .i64 0, .bool false, .int .i64 14]) ∧ ∃ F' N', PIx w' F' g gk sz ks N' ∧ Step w w' F F' := by
  have HL := Lib.hid (length_in h A c l hC hlc hin)
  have HAT := Lib.hid (at_then h A c l hC hlc hin hA)
  have hn0 : ¬ (nb l < 0) := by have := nb_bounds hin.2.1; omega
  clear h hC hin hA
  generalize nb l = q at *
  go_enter Try.func49, Try.ntmps49
  go_wp2_with fail
  refine HL.out.mono ?_
  rintro e w1 ⟨rfl, n, rfl⟩
  go_wp2_with fail
  refine (HAT.out n).mono ?_
  rintro e w2 ⟨b, N2, F2, rfl, hN2, hP2, hS2⟩
  obtain ⟨-, -, s2, sf⟩ := hP2.tree.cells hN2
  have HN2 := Lib.hid hN2; have HP2 := Lib.hid hP2; have HS2 := Lib.hid hS2
  clear hN2 hP2 hS2 HL HAT
  rw [hs] at s2
  clear hs sf
  go_wp2
  go_ret3
  exact ⟨rfl, F2, N2, HP2.out, HS2.out⟩
theorem Put_full (h : PIx w F g gk sz ks N) (A : Option Addr) (c : Nat) (l : List Int) (f : Int) (hC : Kd.C (Kd.int .u8) w A l.length l) (hlc : l.length ≤ c) (hin : InOk sz l) (hA : ∀ ad, A = some ad → 0 < l.length → ¬ F ad.block) (hf : ¬ f > 2) (hf2 : f ≠ 2) (hs : sameAt (cut l) ks 0 = -1) (hfree : freeAt ks 0 = -1) :
    Calls Try.prog 49 #[.pointer (some ⟨g, 0, none⟩), .slice A l.length c, .int .u64 f] w fun e w' => e = .returned (.tuple #[.int .i64 0, .bool false, .int .i64 71]) ∧ ∃ F' N', PIx w' F' g gk sz ks N' ∧ Step w w' F F' := by
  have HL := Lib.hid (length_in h A c l hC hlc hin)
  have HAT := Lib.hid (at_then h A c l hC hlc hin hA)
  have hn0 : ¬ (nb l < 0) := by have := nb_bounds hin.2.1; omega
  clear h hC hin hA
  have bf : (f == 2) = false := by simpa using hf2
  clear hf2
  have HFR := Lib.hid hfree
  clear hfree
  generalize nb l = q at *
  go_enter Try.func49, Try.ntmps49
  go_wp2_with fail
  refine HL.out.mono ?_
  rintro e w1 ⟨rfl, n, rfl⟩
  go_wp2_with fail
  refine (HAT.out n).mono ?_
  rintro e w2 ⟨b, N2, F2, rfl, hN2, hP2, hS2⟩
  obtain ⟨-, -, s2, sf⟩ := hP2.tree.cells hN2
  have HN2 := Lib.hid hN2; have HP2 := Lib.hid hP2; have HS2 := Lib.hid hS2
  clear hN2 hP2 hS2 HL HAT
  rw [hs] at s2
  have HSM := Lib.hid hs
  obtain ⟨c1, r, s0, h0, g0, g1, g2, hc1⟩ := HP2.out.cells
  obtain ⟨vs, hv, hr, hkv⟩ := HP2.out.row
  have hlen := HP2.out.len
  have HV := Lib.hid hv; have HR := Lib.hid hr; have HKV := Lib.hid hkv
  have gf : ∀ i, w2.frozen? ⟨g, i, none⟩ = false := by obtain ⟨_, _, _, _, hh, _⟩ := HP2.out.self; exact fun i => blk_frozen hh i
  clear hs h0 g0 g1 hv hr hkv
  go_wp2
  go_loop [56] (fun i => ∃ k : Nat, k ≤ ks.length ∧ i = .int .i64 (k : Int) ∧ Hid (freeAt ks 0 = freeAt (ks.drop k) k)) (fun i => ks.length - (intOf i).toNat)
  case atStart => exact ⟨0, Nat.zero_le _, rfl, Lib.hid rfl⟩
  case round =>
    obtain ⟨k, hk, rfl, HS⟩ := hrel
    by_cases hlt : k < ks.length
    · have hcell := HR.out.cell k (by rw [HV.out]; exact hlt)
      have hcf := HR.out.frozen k
      generalize hvk : vs[k]'(by rw [HV.out]; exact hlt) = v at hcell
      have hvs : vs[k]? = some v := by rw [List.getElem?_eq_getElem (by rw [HV.out]; exact hlt), hvk]
      cases hkk : ks[k]'hlt with
      | none =>
        have hks : ks[k]? = some none := by rw [List.getElem?_eq_getElem hlt, hkk]
        obtain rfl : v = .slice none 0 0 := HKV.out k v none hvs hks
        have hq := fun W => run_eql_slice_nil_any (P := Try.prog) W 32 5 none 0 0 0 0 Try.underlying32
        have HF : Hid (freeAt ks 0 = (k : Int)) := Lib.hid (HS.out.trans (free_none hks))
        clear hvk hvs hkk HS
        exact absurd (HF.out.symm.trans HFR.out) (by omega)
      | some l' =>
        have hks : ks[k]? = some (some l') := by rw [List.getElem?_eq_getElem hlt, hkk]
        obtain ⟨b', cb, rfl, hb1, hbF, hrow⟩ := HKV.out k v (some l') hvs hks
        have hq := fun W => run_eql_slice_nil_any (P := Try.prog) W 32 5 (some ⟨b', 0, none⟩) l'.length cb 0 0 Try.underlying32
        have HS2' := Lib.hid (HS.out.trans (free_some hks))
        clear hvk hvs hkk hks HS hrow hbF hb1
        go_wp2
        go_round
        case rel => exact ⟨k + 1, by omega, by go_num, HS2'⟩
        case measure => simp [intOf]; omega
    · have HF : Hid (freeAt ks 0 = -1) := Lib.hid (by rw [HS.out, List.drop_eq_nil_of_le (by omega)]; rfl)
      clear HS
      go_wp2
      go_ret3
      exact ⟨rfl, F2, ⟨N2, HP2.out⟩, HS2.out⟩
theorem Put_new (h : PIx w F g gk sz ks N) (A : Option Addr) (c : Nat) (l : List Int) (f : Int) (hC : Kd.C (Kd.int .u8) w A l.length l) (hlc : l.length ≤ c) (hin : InOk sz l) (hA : ∀ ad, A = some ad → 0 < l.length → ¬ F ad.block) (hf : ¬ f > 2) (hf2 : f ≠ 2) (hs : sameAt (cut l) ks 0 = -1) (i : Nat) (hfree : freeAt ks 0 = (i : Int)) :
    Calls Try.prog 49 #[.pointer (some ⟨g, 0, none⟩), .slice A l.length c, .int .u64 f] w fun e w' => e = .returned (.tuple #[.int .i64 (i : Int), .bool true, .int .i64 0]) ∧ ∃ F' N', PIx w' F' g gk sz (ks.set i (some (cut l))) N' ∧ Step w w' F F' := by
  have HL := Lib.hid (length_in h A c l hC hlc hin)
  have HAT := Lib.hid (at_then h A c l hC hlc hin hA)
  have hn0 : ¬ (nb l < 0) := by have := nb_bounds hin.2.1; omega
  have HIN := Lib.hid hin; have HC := Lib.hid hC; have HA := Lib.hid hA
  have hszs := h.szs
  have HFM := Lib.hid (fun (W : World) (F' : Nat → Prop) (hS : Step w W F F') => form_ W A c l (Cu8_step hC hS hA) hlc hin hszs)
  clear h hC hin hA
  have bf : (f == 2) = false := by simpa using hf2
  clear hf2
  have HFR := Lib.hid hfree
  clear hfree
  generalize nb l = q at *
  go_enter Try.func49, Try.ntmps49
  go_wp2_with fail
  refine HL.out.mono ?_
  rintro e w1 ⟨rfl, n, rfl⟩
  go_wp2_with fail
  refine (HAT.out n).mono ?_
  rintro e w2 ⟨b, N2, F2, rfl, hN2, hP2, hS2⟩
  obtain ⟨-, -, s2, sf⟩ := hP2.tree.cells hN2
  have HN2 := Lib.hid hN2; have HP2 := Lib.hid hP2; have HS2 := Lib.hid hS2
  clear hN2 hP2 hS2 HL HAT
  rw [hs] at s2
  have HSM := Lib.hid hs
  obtain ⟨c1, r, s0, h0, g0, g1, g2, hc1⟩ := HP2.out.cells
  obtain ⟨vs, hv, hr, hkv⟩ := HP2.out.row
  have hlen := HP2.out.len
  have HV := Lib.hid hv; have HR := Lib.hid hr; have HKV := Lib.hid hkv
  have gf : ∀ i, w2.frozen? ⟨g, i, none⟩ = false := by obtain ⟨_, _, _, _, hh, _⟩ := HP2.out.self; exact fun i => blk_frozen hh i
  clear hs h0 g0 g1 hv hr hkv
  go_wp2
  go_loop [56] (fun i => ∃ k : Nat, k ≤ ks.length ∧ i = .int .i64 (k : Int) ∧ Hid (freeAt ks 0 = freeAt (ks.drop k) k)) (fun i => ks.length - (intOf i).toNat)
  case atStart => exact ⟨0, Nat.zero_le _, rfl, Lib.hid rfl⟩
  case round =>
    obtain ⟨k, hk, rfl, HS⟩ := hrel
    by_cases hlt : k < ks.length
    · have hcell := HR.out.cell k (by rw [HV.out]; exact hlt)
      have hcf := HR.out.frozen k
      generalize hvk : vs[k]'(by rw [HV.out]; exact hlt) = v at hcell
      have hvs : vs[k]? = some v := by rw [List.getElem?_eq_getElem (by rw [HV.out]; exact hlt), hvk]
      cases hkk : ks[k]'hlt with
      | none =>
        have hks : ks[k]? = some none := by rw [List.getElem?_eq_getElem hlt, hkk]
        obtain rfl : v = .slice none 0 0 := HKV.out k v none hvs hks
        have hq := fun W => run_eql_slice_nil_any (P := Try.prog) W 32 5 none 0 0 0 0 Try.underlying32
        have HF : Hid (freeAt ks 0 = (k : Int)) := Lib.hid (HS.out.trans (free_none hks))
        clear hvk hvs hkk HS
        obtain rfl : k = i := by have := HF.out; have := HFR.out; omega
        have HKS := Lib.hid hks
        clear hks
        have hgb := (HP2.out.tree.at_ _ _ _ HN2.out).2
        have HGB := Lib.hid hgb
        have sf2 := sf 2
        obtain ⟨rr, hrr⟩ := HR.out
        have HRR := Lib.hid hrr
        have hne : b ≠ gk := blk_ne hgb hrr (by decide)
        have hne2 : gk ≠ b := hne.symm
        clear hgb hrr sf gf
        go_wp2_with fail
        go_region_with (go_at_call 73; refine ((HFM.out _ F2 (by first | exact HS2.out.drew | exact HS2.out.drewN _ | exact HS2.out)).mono ?_); rintro e w5 ⟨b5, c5, rfl, k1, k2, k3, hB5⟩; have g2' := old hB5 (show w2.drew.cell? _ = _ from g2); have hcell' := old hB5 (show w2.drew.cell? _ = _ from hcell); have hcf' := oldf hB5 (show Row w2.drew gk 32 vs from HR.out) k; have s2' := old hB5 (show w2.drew.cell? _ = _ from s2); have HK5 := Lib.hid (And.intro k1 (And.intro k2 k3)); have HB5 := Lib.hid hB5; clear k1 k2 k3 hB5)
        all_goals
          have sf5 : w5.frozen? ⟨b, 2, none⟩ = false := (World.frozen?_of_block (w := w2.drew) (a := ⟨b, 2, none⟩) (HB5.out.block b (by have := HP2.out.lt b (HP2.out.tree.at_ _ _ _ HN2.out).1; simpa using this))).trans sf2
          have HF5 : Hid (PIx w5 (fun b => F2 b ∨ b = b5) g gk sz ks N2) := Lib.hid ((HP2.out.keep (w' := w5) (fun b hb => HB5.out.block b (by simpa using HP2.out.lt b hb)) (by simpa using HB5.out.size)).mono (fun b hb => .inl hb) (fun b hb => hb.elim (fun hb => Nat.lt_of_lt_of_le (HP2.out.lt b hb) (by simpa using HB5.out.size)) (fun e => e ▸ HK5.out.2.2.lt)))
          have hst : Hid (Step w ((w5.setCell ⟨gk, k, none⟩ (.slice (some ⟨b5, 0, none⟩) l.length c5)).setCell ⟨b, 2, none⟩ (.int .i64 (k : Int))) F (fun b => F2 b ∨ b = b5)) := Lib.hid (((((HS2.out.drew.trans (Step.of_below HB5.out F2)).setCell (p := ⟨gk, k, none⟩) (HS2.out.foot gk HP2.out.inF.2) _).setCell (p := ⟨b, 2, none⟩) (HS2.out.foot b (HP2.out.tree.at_ _ _ _ HN2.out).1) _)).to (fun b' hb' => hb'.imp id (fun e => by subst e; exact Nat.le_trans HS2.out.size HK5.out.2.1)))
          clear g2 hcell hcf s2 sf2 g2' hcell' hcf'
          go_wp2
          go_ret3
          exact ⟨rfl, _, _, PIx.put HF5.out HIN.out (by rw [HN2.out, HSM.out]) HKS.out HK5.out.2.2 (.inr rfl) HK5.out.1, hst.out⟩
      | some l' =>
        have hks : ks[k]? = some (some l') := by rw [List.getElem?_eq_getElem hlt, hkk]
        obtain ⟨b', cb, rfl, hb1, hbF, hrow⟩ := HKV.out k v (some l') hvs hks
        have hq := fun W => run_eql_slice_nil_any (P := Try.prog) W 32 5 (some ⟨b', 0, none⟩) l'.length cb 0 0 Try.underlying32
        have HS2' := Lib.hid (HS.out.trans (free_some hks))
        clear hvk hvs hkk hks HS hrow hbF hb1
        go_wp2
        go_round
        case rel => exact ⟨k + 1, by omega, by go_num, HS2'⟩
        case measure => simp [intOf]; omega
    · have HF : Hid (freeAt ks 0 = -1) := Lib.hid (by rw [HS.out, List.drop_eq_nil_of_le (by omega)]; rfl)
      clear HS
      exact absurd (HF.out.symm.trans HFR.out) (by omega)
theorem Del_bad (h : PIx w F g gk sz ks N) (A : Option Addr) (c : Nat) (l : List Int) (hC : Kd.C (Kd.int .u8) w A l.length l) (hlc : l.length ≤ c) (hb : Bs l) (hin : ¬ InOk sz l) :
    Calls Try.prog 55 #[.pointer (some ⟨g, 0, none⟩), .slice A l.length c] w fun e w' => e = .returned (.tuple #[.int .i64 0, .int .i64 2]) ∧ ∃ n, w' = w.drewN n := by
  have HL := Lib.hid (length_no h A c l hC hlc hb hin)
  clear h hC hin hb
  go_enter Try.func55, Try.ntmps55
  go_wp2_with fail
  refine HL.out.mono ?_
  rintro e w1 ⟨rfl, n, rfl⟩
  go_wp2
  go_ret2
  exact ⟨rfl, ⟨_, rfl⟩⟩
theorem Del_none (h : PIx w F g gk sz ks N) (A : Option Addr) (c : Nat) (l : List Int) (hC : Kd.C (Kd.int .u8) w A l.length l) (hlc : l.length ≤ c) (hin : InOk sz l) (hA : ∀ ad, A = some ad → 0 < l.length → ¬ F ad.block) (hs : sameAt (cut l) ks 0 = -1) :
    Calls Try.prog 55 #[.pointer (some ⟨g, 0, none⟩), .slice A l.length c] w fun e w' => e = .returned (.tuple #[.int .i64 0, .int .i64 14]) ∧ ∃ F' N', PIx w' F' g gk sz ks N' ∧ Step w w' F F' := by
  have HL := Lib.hid (length_in h A c l hC hlc hin)
  have HAT := Lib.hid (at_then h A c l hC hlc hin hA)
  have hn0 : ¬ (nb l < 0) := by have := nb_bounds hin.2.1; omega
  have HIN := Lib.hid hin
  clear h hC hin hA
  generalize nb l = q at *
  go_enter Try.func55, Try.ntmps55
  go_wp2_with fail
  refine HL.out.mono ?_
  rintro e w1 ⟨rfl, n, rfl⟩
  go_wp2_with fail
  refine (HAT.out n).mono ?_
  rintro e w2 ⟨b, N2, F2, rfl, hN2, hP2, hS2⟩
  obtain ⟨-, -, s2, sf⟩ := hP2.tree.cells hN2
  have HN2 := Lib.hid hN2; have HP2 := Lib.hid hP2; have HS2 := Lib.hid hS2
  clear hN2 hP2 hS2 HL HAT
  rw [hs] at s2
  clear hs sf
  go_wp2
  go_ret2
  exact ⟨rfl, F2, N2, HP2.out, HS2.out⟩
theorem Del_ (h : PIx w F g gk sz ks N) (A : Option Addr) (c : Nat) (l : List Int) (hC : Kd.C (Kd.int .u8) w A l.length l) (hlc : l.length ≤ c) (hin : InOk sz l) (hA : ∀ ad, A = some ad → 0 < l.length → ¬ F ad.block) (i : Nat) (hs : sameAt (cut l) ks 0 = (i : Int)) :
    Calls Try.prog 55 #[.pointer (some ⟨g, 0, none⟩), .slice A l.length c] w fun e w' => e = .returned (.tuple #[.int .i64 (i : Int), .int .i64 0]) ∧ ∃ F' N', PIx w' F' g gk sz (ks.set i none) N' ∧ Step w w' F F' := by
  have HL := Lib.hid (length_in h A c l hC hlc hin)
  have HAT := Lib.hid (at_then h A c l hC hlc hin hA)
  have hn0 : ¬ (nb l < 0) := by have := nb_bounds hin.2.1; omega
  have HIN := Lib.hid hin
  clear h hC hin hA
  generalize nb l = q at *
  go_enter Try.func55, Try.ntmps55
  go_wp2_with fail
  refine HL.out.mono ?_
  rintro e w1 ⟨rfl, n, rfl⟩
  go_wp2_with fail
  refine (HAT.out n).mono ?_
  rintro e w2 ⟨b, N2, F2, rfl, hN2, hP2, hS2⟩
  obtain ⟨-, -, s2, sf⟩ := hP2.tree.cells hN2
  have HN2 := Lib.hid hN2; have HP2 := Lib.hid hP2; have HS2 := Lib.hid hS2
  clear hN2 hP2 hS2 HL HAT
  rw [hs] at s2
  have HSM := Lib.hid hs
  have hi0 : ¬ ((i : Int) < 0) := by omega
  obtain ⟨c1, r, s0, h0, g0, g1, g2, hc1⟩ := HP2.out.cells
  obtain ⟨vs, hv, hr, hkv⟩ := HP2.out.row
  have hil : i < ks.length := by rcases same_slot (cut l) ks with e | ⟨j, e, hj⟩ <;> omega
  have hcell := hr.cell i (by omega)
  generalize vs[i]'(by omega) = u at hcell
  have hcf := hr.frozen i
  have hgb := (HP2.out.tree.at_ _ _ _ HN2.out).2
  have hne : b ≠ gk := by obtain ⟨rr, hrr⟩ := hr; exact blk_ne hgb hrr (by decide)
  have hne2 : gk ≠ b := hne.symm
  have hneg : b ≠ g := by obtain ⟨_, _, _, _, hh, _⟩ := HP2.out.self; exact blk_ne hgb hh (by decide)
  have hneg2 : g ≠ b := hneg.symm
  have sf2 := sf 2
  have hsame : Hid (ks[i]? = some (some (cut l))) := Lib.hid (by
    have := Hm.same_some hs
    exact this)
  clear hs sf h0 g0 g1 hv hr hkv hgb
  go_wp2
  go_ret2
  exact ⟨rfl, F2, _, PIx.del HP2.out HIN.out (by rw [HN2.out, HSM.out]) hsame.out, (HS2.out.setCell (p := ⟨b, 2, none⟩) (HS2.out.foot b (HP2.out.tree.at_ _ _ _ HN2.out).1) _).setCell (p := ⟨gk, i, none⟩) (HS2.out.foot gk HP2.out.inF.2) _⟩
end
end Go.Proofs.Ytfbajampfiodeaa.LpmX
namespace Go.Proofs.Ytfbajampfiodeaa.LpmY
open Go.RowKit Go.Proofs.Ytfbajampfiodeaa.PArrayPlays Go.Proofs.YtfbajampfiodeaaW.PrintWords Go.Proofs.YtfbajampfiodeaaW.PrintLast Go.Proofs.YtfbajampfiodeaaW.PrintMore Go.Proofs.Ytfbajampfiodeaa.Mw Go.Proofs.Ytfbajampfiodeaa.Rx Go.Proofs.Ytfbajampfiodeaa.RxOps Go.Proofs.Ytfbajampfiodeaa.RxPut Go.Proofs.Ytfbajampfiodeaa.RxNew Go.Proofs.Ytfbajampfiodeaa.RxMore Go.Proofs.Ytfbajampfiodeaa.Fresh Go.Proofs.Ytfbajampfiodeaa.LpmB Go.Proofs.Ytfbajampfiodeaa.LpmF Go.Proofs.Ytfbajampfiodeaa.LpmC Go.Proofs.Ytfbajampfiodeaa.LpmT Go.Proofs.Ytfbajampfiodeaa.LpmD Go.Proofs.Ytfbajampfiodeaa.LpmW Go.Proofs.Ytfbajampfiodeaa.LpmX
set_option linter.unusedVariables false
theorem New_bad (s m : Int) (w : World) (h : s < 5 ∨ s > 16 ∨ m < 1 ∨ m > 64) :
    Calls Try.prog 48 #[.int .i64 s, .int .i64 m] w fun e w' => e = .returned (.tuple #[.pointer none, .int .i64 2]) ∧ w = w' := by
  by_cases h1 : s < 5
  · clear h
    go_enter Try.func48, Try.ntmps48
    go_wp2
    go_ret2
    exact ⟨rfl, rfl⟩
  · by_cases h2 : s > 16
    · clear h
      go_enter Try.func48, Try.ntmps48
      go_wp2
      go_ret2
      exact ⟨rfl, rfl⟩
    · by_cases h3 : m < 1
      · clear h
        go_enter Try.func48, Try.ntmps48
        go_wp2
        go_ret2
        exact ⟨rfl, rfl⟩
      · have h4 : m > 64 := by omega
        clear h
        go_enter Try.func48, Try.ntmps48
        go_wp2
        go_ret2
        exact ⟨rfl, rfl⟩
theorem Find_nil (A : Option Addr) (l c : Nat) (w : World) :
    Calls Try.prog 52 #[.pointer none, .slice A l c] w fun e w' => e = .returned (.tuple #[.int .i64 0, .bool false]) ∧ w = w' := by
  go_enter Try.func52, Try.ntmps52
  go_wp2
  go_ret2
  exact ⟨rfl, rfl⟩
theorem Put_nil (A : Option Addr) (l c : Nat) (f : Int) (w : World) :
    Calls Try.prog 49 #[.pointer none, .slice A l c, .int .u64 f] w fun e w' => e = .returned (.tuple #[.int .i64 0, .bool false, .int .i64 1]) ∧ w = w' := by
  go_enter Try.func49, Try.ntmps49
  go_wp2
  go_ret3
  exact ⟨rfl, rfl⟩
theorem Del_nil (A : Option Addr) (l c : Nat) (w : World) :
    Calls Try.prog 55 #[.pointer none, .slice A l c] w fun e w' => e = .returned (.tuple #[.int .i64 0, .int .i64 1]) ∧ w = w' := by
  go_enter Try.func55, Try.ntmps55
  go_wp2
  go_ret2
  exact ⟨rfl, rfl⟩
theorem Keys_nil (w : World) :
    Calls Try.prog 50 #[.pointer none] w fun e w' => e = .returned (.slice none 0 0) ∧ w = w' := by
  go_enter Try.func50, Try.ntmps50
  go_wp2
  go_ret
  exact ⟨rfl, rfl⟩
theorem Copy_nil (w : World) :
    Calls Try.prog 56 #[.pointer none] w fun e w' => e = .returned (.pointer none) ∧ w = w' := by
  go_enter Try.func56, Try.ntmps56
  go_wp2
  go_ret
  exact ⟨rfl, rfl⟩
def N0 (r : Nat) : Nodes := fun q => if q = [] then some (r, -1) else none
theorem N0_snoc (r : Nat) (q : List Int) (x : Int) : N0 r (q ++ [x]) = none := by unfold N0; rw [if_neg (by simp)]
theorem N0_slot (r : Nat) (q : List Int) : slotOf (N0 r) q = -1 := by
  unfold slotOf N0
  by_cases h : q = []
  · rw [if_pos h]
  · rw [if_neg h]
theorem made {W : World} {B g gk r m : Nat} {sz : Int} (h1 : W.heap[gk]? = some (.cells (madeCells #[.slice none 0 0] m) 32 (0, 0))) (h2 : W.heap[r]? = some newNode)
    (h3 : W.heap[g]? = some (.cells #[.int .i64 sz, .pointer (some ⟨r, 0, none⟩), .slice (some ⟨gk, 0, none⟩) m m] 116 (0, 0))) (hm : 0 < m ∧ m ≤ 64) (hs : 5 ≤ sz ∧ sz ≤ 16) (hB : B ≤ g ∧ B ≤ gk ∧ B ≤ r) :
    PIx W (fun b => B ≤ b ∧ b < W.heap.size) g gk sz (List.replicate m none) (N0 r) := by
  refine ⟨⟨m, r, -1, by unfold N0; rw [if_pos rfl], by simpa using h3, by simp⟩, ⟨List.replicate m (.slice none 0 0), by simp, ⟨[], by rw [h1, made_rep, List.append_nil]⟩, fun i v k e1 e2 => ?_⟩, ⟨fun p b s e => ?_, fun p q b s s' e1 e2 => ?_, fun p x _ => N0_snoc r p x⟩, ⟨fun i k e => ?_, fun q => .inl (N0_slot r q)⟩, ⟨⟨hB.1, blk_lt h3⟩, ⟨hB.2.1, blk_lt h1⟩⟩, fun b hb => hb.2, by simpa using hm, hs, ⟨hs.1, fun k hk => ?_⟩⟩
  · rw [List.getElem?_replicate] at e1 e2
    split at e1
    · rename_i hlt
      rw [if_pos hlt] at e2
      cases e1; cases e2
      rfl
    · cases e1
  · rw [N0_snoc, N0_snoc]
    unfold N0 at e
    split at e
    · cases e
      exact ⟨⟨hB.2.2, blk_lt h2⟩, h2⟩
    · cases e
  · unfold N0 at e1 e2
    split at e1
    · split at e2
      · rename_i a b; rw [a, b]
      · cases e2
    · cases e1
  · rw [List.getElem?_replicate] at e
    split at e <;> cases e
  · have := List.eq_of_mem_replicate hk
    cases this
theorem New_ok (s : Int) (m : Nat) (w : World) (h1 : 5 ≤ s) (h2 : s ≤ 16) (h3 : 1 ≤ m) (h4 : m ≤ 64) :
    Calls Try.prog 48 #[.int .i64 s, .int .i64 (m : Int)] w fun e w' => ∃ F g gk N, e = .returned (.tuple #[.pointer (some ⟨g, 0, none⟩), .int .i64 0]) ∧ PIx w' F g gk s (List.replicate m none) N ∧ (∀ b, F b → w.heap.size ≤ b) ∧ Below w.heap.size w w' := by
  obtain ⟨i1, hi1, hz1, hs1, hb1⟩ := info_parts (P := Try.prog) (e := 32) (z := .slice none 0 0) (size := 1) (bytes := 24) (by kernel_rfl)
  have hm1 : ∀ W, (Instr.makeSlice 38 (.int .i64 m) (.int .i64 m)).run Try.prog W = .ok (.slice (some ⟨W.heap.size, 0, none⟩) m m) (W.alloc (.cells (madeCells #[.slice none 0 0] m) 32)) := by
    intro W
    have := run_makeSlice (P := Try.prog) W 38 32 i1 (.slice none 0 0) Try.underlying38 hi1 hz1 .i64 .i64 m m (by omega) (by omega) (by rw [hs1]; omega) (by rw [hb1]; omega) (by omega)
    rw [hs1, Int.toNat_natCast, Nat.mul_one] at this
    exact this
  have hP : Hid (∃ F, PIx (((w.alloc newNode).alloc (.cells (madeCells #[.slice none 0 0] m) 32)).alloc (.cells #[.int .i64 s, .pointer (some ⟨w.heap.size, 0, none⟩), .slice (some ⟨w.heap.size + 1, 0, none⟩) m m] 116)) F (w.heap.size + 1 + 1) (w.heap.size + 1) s (List.replicate m none) (N0 w.heap.size) ∧ ∀ b, F b → w.heap.size ≤ b) := by
    refine Lib.hid ⟨_, made (B := w.heap.size) ?_ ?_ ?_ (by omega) (by omega) (by omega), fun b hb => hb.1⟩
    · have := heap_alloc_new (w.alloc newNode) (.cells (madeCells #[.slice none 0 0] m) 32)
      exact blk_alloc (by simpa using this) _
    · exact blk_alloc (blk_alloc (heap_alloc_new w newNode) _) _
    · have e : ((w.alloc newNode).alloc (.cells (madeCells #[.slice none 0 0] m) 32)).heap.size = w.heap.size + 1 + 1 := by simp
      have := heap_alloc_new ((w.alloc newNode).alloc (.cells (madeCells #[.slice none 0 0] m) 32)) (.cells #[.int .i64 s, .pointer (some ⟨w.heap.size, 0, none⟩), .slice (some ⟨w.heap.size + 1, 0, none⟩) m m] 116)
      rw [e] at this
      exact this
  have HB := Lib.hid (Below.refl w.heap.size w)
  clear hi1 hz1 hs1 hb1
  go_enter Try.func48, Try.ntmps48
  go_wp2
  go_ret2
  obtain ⟨F, hF1, hF2⟩ := hP.out
  exact ⟨F, _, _, _, rfl, hF1, hF2, below_alloc (below_alloc (below_alloc HB.out _) _) _⟩
theorem row_fresh {w : World} {B b c : Nat} {l : List Int} (h : Row w b 5 (l.map (Value.int .u8))) (hB : B ≤ b) (hc : l.length ≤ c) : FreshRow w B (.slice (some ⟨b, 0, none⟩) l.length c) l := by
  obtain ⟨r, hr⟩ := h
  refine ⟨b, c, _, _, rfl, hc, hB, hr, fun j x hj => ⟨?_, blk_frozen hr j⟩⟩
  have hjl : j < l.length := (List.getElem?_eq_some_iff.1 hj).1
  have := (show Row w b 5 (l.map (Value.int .u8)) from ⟨r, hr⟩).cell j (by simpa using hjl)
  rw [this, List.getElem_map]
  rw [List.getElem?_eq_getElem hjl] at hj
  cases hj
  rfl
set_option maxHeartbeats 2000000 in
set_option maxRecDepth 100000 in
theorem Keys_ {w : World} {F : Nat → Prop} {g gk : Nat} {sz : Int} {ks : List (Option (List Int))} {N : Nodes} (h : PIx w F g gk sz ks N) :
    Calls Try.prog 50 #[.pointer (some ⟨g, 0, none⟩)] w fun e w' => ∃ v, e = .returned v ∧ FreshRows w' w.heap.size v (ks.filterMap id) ∧ Below w.heap.size w w' := by
  obtain ⟨m, hmk⟩ : ∃ m, m = ks.length := ⟨_, rfl⟩
  obtain ⟨c1, r, s0, h0, g0, g1, g2, hc1⟩ := h.cells
  obtain ⟨vs, hv, hr, hkv⟩ := h.row
  have hlen := h.len
  have hsz := h.szs
  rw [← hmk] at g2 hc1 hlen
  have H := Lib.hid h; have HMK := Lib.hid hmk; have HV := Lib.hid hv; have HR := Lib.hid hr; have HKV := Lib.hid hkv
  have HO0 : Hid (OutIs w w.heap.size (.slice none 0 0) ((ks.take 0).filterMap id)) := Lib.hid (OutIs.start w w.heap.size)
  have HB0 := Lib.hid (Below.refl w.heap.size w)
  clear h h0 g0 g1 hmk hv hr hkv
  go_enter Try.func50, Try.ntmps50
  go_wp2
  go_loopw [3, 13] (fun v i wr => ∃ k : Nat, k ≤ m ∧ i = .int .i64 (k : Int) ∧ Hid (OutIs wr w.heap.size v ((ks.take k).filterMap id)) ∧ Hid (Below w.heap.size w wr)) (fun _ i _ => m - (intOf i).toNat)
  case atStart => exact ⟨0, Nat.zero_le _, rfl, HO0, HB0⟩
  case round =>
    clear HO0 HB0
    obtain ⟨k, hk, rfl, HO, HBEL⟩ := hrel
    by_cases hlt : k < m
    · have hkl : k < ks.length := by rw [← HMK.out]; exact hlt
      have hkh : k < vs.length := by rw [HV.out]; exact hkl
      have hcell := old HBEL.out (HR.out.cell k hkh)
      have hvs : vs[k]? = some (vs[k]'hkh) := List.getElem?_eq_getElem hkh
      generalize vs[k]'hkh = v at hcell hvs
      cases hkk : ks[k]'hkl with
      | none =>
        have hks : ks[k]? = some none := by rw [List.getElem?_eq_getElem hkl, hkk]
        obtain rfl : v = .slice none 0 0 := HKV.out k v none hvs hks
        have hq := fun W => run_neq_slice_nil_any (P := Try.prog) W 32 5 none 0 0 0 0 Try.underlying32
        have HO2 := HO
        rw [← keys_none hks] at HO2
        clear hkk hks hkl hkh hvs HO
        go_wp2
        go_roundw
        case rel => exact ⟨k + 1, by omega, by go_num, HO2, HBEL⟩
        case measure => simp [intOf]; omega
      | some l =>
        have hks : ks[k]? = some (some l) := by rw [List.getElem?_eq_getElem hkl, hkk]
        obtain ⟨b, cb, rfl, hb1, hbF, hrow⟩ := HKV.out k v (some l) hvs hks
        have hq := fun W => run_neq_slice_nil_any (P := Try.prog) W 32 5 (some ⟨b, 0, none⟩) l.length cb 0 0 Try.underlying32
        have hkb := (H.out.ok.2 l (List.mem_of_getElem? hks)).1
        have HCL := Lib.hid (clone_ wr (some ⟨b, 0, none⟩) cb l (rowC (hrow.keep (HBEL.out.block b hrow.lt)) (by omega)) (by omega) (by omega))
        have HKS := Lib.hid (keys_some hks)
        obtain ⟨out, o1, o2, o3⟩ := HO.out
        have HO1 := Lib.hid o1; have HO2 := Lib.hid o2; have HO3 := Lib.hid o3
        have HOL := Lib.hid (show (out.map fun u => [u]).length ≤ 64 by rw [List.length_map, o2]; have := keys_few ks k; have := H.out.len; omega)
        clear hkk hks hkl hkh hvs HO o1 o2 o3 hbF hrow
        go_wp2_with fail
        refine HCL.out.mono ?_
        rintro e w5 ⟨b5, c5, rfl, k1, k2, k3, hB5⟩
        have HFR := Lib.hid (row_fresh (B := w.heap.size) k3 (Nat.le_trans HBEL.out.size k2) k1)
        have HB5 := Lib.hid hB5
        have HLT : Hid (w.heap.size < w5.heap.size) := Lib.hid (by have := k3.lt; have := HBEL.out.size; omega)
        clear k1 k2 k3 hB5 HCL
        go_wp2_with (first
          | ((with_reducible refine gate_builtin (b := .append) (xs := #[.tmp 19, .tmp 22]) rfl ?_)
             at_builtin
             refine Kd.R_append (Kd.raw 1) (w0 := w) w.heap.size rfl (.tmp 19) (.tmp 22) 38 32 (.slice none 0 0) 24 rfl Try.underlying38 info32 rfl (by decide) (by omega) _ (out.map fun u => [u]) [.slice (some ⟨b5, 0, none⟩) l.length c5] [.slice (some ⟨b5, 0, none⟩) l.length c5] (fun b => w.heap.size < b) (fun _ => False) rfl rfl ?aP (fun _ h => h.elim) ?aF ?aO ?aB ?aS ?aL ?_
             (case aP => exact ⟨rfl, rfl, by simp; rfl⟩)
             (case aF => exact fun b hb => Nat.lt_of_lt_of_le HLT.out hb)
             (case aO => exact Kd.R_below HO1.out HB5.out)
             (case aB => exact HBEL.out.trans (HB5.out.mono HBEL.out.size))
             (case aS => exact Nat.le_of_lt HLT.out)
             (case aL => have := HOL.out; omega)
             intro v8 w8 ho hb hg hat
             have HW8 := Lib.hid (And.intro (OutIs.snoc (Kd.R_below HO1.out HB5.out) HO2.out (fun j u l e1 e2 => (HO3.out j u l e1 e2).keep fun b cs fr hc _ => HB5.out.block b (blk_lt hc)) HFR.out ho hg) hb)
             clear ho hb hg hat)
          | fail)
        have HOO := HW8.out.1
        rw [← HKS.out] at HOO
        have HOO2 := Lib.hid HOO; have HB2 := Lib.hid HW8.out.2
        clear HOO
        go_roundw
        case rel => exact ⟨k + 1, by omega, by go_num, HOO2, HB2⟩
        case measure => simp [intOf]; omega
    · obtain rfl : k = m := by omega
      have hO := HO.out
      rw [show ks.take k = ks by rw [HMK.out, List.take_length]] at hO
      have HD2 := Lib.hid hO.done
      clear hO
      go_wp2
      go_ret
      exact ⟨_, rfl, HD2.out, HBEL.out⟩
end Go.Proofs.Ytfbajampfiodeaa.LpmY
namespace Go.Proofs.Ytfbajampfiodeaa.LpmZ
open Go.RowKit Go.Proofs.Ytfbajampfiodeaa.PArrayPlays Go.Proofs.YtfbajampfiodeaaW.PrintWords Go.Proofs.YtfbajampfiodeaaW.PrintLast Go.Proofs.YtfbajampfiodeaaW.PrintMore Go.Proofs.Ytfbajampfiodeaa.Mw Go.Proofs.Ytfbajampfiodeaa.Rx Go.Proofs.Ytfbajampfiodeaa.RxOps Go.Proofs.Ytfbajampfiodeaa.RxPut Go.Proofs.Ytfbajampfiodeaa.RxNew Go.Proofs.Ytfbajampfiodeaa.RxMore Go.Proofs.Ytfbajampfiodeaa.Fresh Go.Proofs.Ytfbajampfiodeaa.LpmB Go.Proofs.Ytfbajampfiodeaa.LpmF Go.Proofs.Ytfbajampfiodeaa.LpmC Go.Proofs.Ytfbajampfiodeaa.LpmT Go.Proofs.Ytfbajampfiodeaa.LpmD Go.Proofs.Ytfbajampfiodeaa.LpmW Go.Proofs.Ytfbajampfiodeaa.LpmX Go.Proofs.Ytfbajampfiodeaa.LpmY
set_option linter.unusedVariables false
/-- What has been copied so far. -/
def part (ks : List (Option (List Int))) (k : Nat) : List (Option (List Int)) := ks.take k ++ List.replicate (ks.length - k) none
theorem part_zero (ks : List (Option (List Int))) : part ks 0 = List.replicate ks.length none := by simp [part]
theorem part_all (ks : List (Option (List Int))) : part ks ks.length = ks := by simp [part]
theorem part_len (ks : List (Option (List Int))) (k : Nat) (h : k ≤ ks.length) : (part ks k).length = ks.length := by simp [part]; omega
theorem part_at (ks : List (Option (List Int))) (k : Nat) (h : k < ks.length) : (part ks k)[k]? = some none := by
  unfold part
  rw [List.getElem?_append_right (by simp; omega), List.getElem?_replicate, if_pos (by simp; omega)]
theorem part_set (ks : List (Option (List Int))) (k : Nat) (h : k < ks.length) : (part ks k).set k (ks[k]'h) = part ks (k + 1) := by
  unfold part
  rw [List.set_append_right _ _ (by simp; omega), List.take_add_one, List.getElem?_eq_getElem h, List.append_assoc]
  congr 1
  rw [show k - (ks.take k).length = 0 by simp; omega, show ks.length - k = (ks.length - (k + 1)) + 1 by omega, List.replicate_succ]
  rfl
theorem part_none (ks : List (Option (List Int))) (k : Nat) (h : ks[k]? = some none) : part ks (k + 1) = part ks k := by
  obtain ⟨hk, e⟩ := List.getElem?_eq_some_iff.1 h
  rw [← part_set ks k hk, e]
  refine List.ext_getElem? fun i => ?_
  by_cases hi : k = i
  · subst hi
    rw [List.getElem?_set_self (by rw [part_len ks k (by omega)]; exact hk), part_at ks k hk]
  · rw [List.getElem?_set_ne hi]
section
variable {w w' : World} {F F' : Nat → Prop} {g gk : Nat} {sz : Int} {ks : List (Option (List Int))} {N N' : Nodes} {P P' : (List Int → Int) → Prop}
theorem PIxP.key (h : PIxP P w F g gk sz ks N) (i : Nat) (hi : i < ks.length) (v : Value) (k : Option (List Int)) (hkv : KeyV w F v k) (hok : ∀ l, k = some l → KeyOk sz l) : PIxP P (w.setCell ⟨gk, i, none⟩ v) F g gk sz (ks.set i k) N := by
  obtain ⟨c, r, s0, h0, hs, hc⟩ := h.self
  obtain ⟨vs, hv, ⟨rr, hrr⟩, hkvs⟩ := h.row
  have far : ∀ (b' : Nat) (t : TypeId) (cs : Array Value), w.heap[b']? = some (.cells cs t (0, 0)) → t ≠ 32 → (w.setCell ⟨gk, i, none⟩ v).heap[b']? = w.heap[b']? := fun b' t cs hb' ht => far_cell hrr hb' ht
  refine ⟨⟨c, r, s0, h0, ?_, by rw [List.length_set]; exact hc⟩, ⟨vs.set i v, by rw [List.length_set, List.length_set]; exact hv, Row.set_ ⟨rr, hrr⟩ i (by omega) _, fun j u k' h1 h2 => ?_⟩, h.tree.keep fun b' cs hb' _ => far b' _ cs hb' (by decide), h.slots, h.inF, fun b' hb' => by simpa [World.setCell] using h.lt b' hb', by rw [List.length_set]; exact h.len, h.szs, h.ok.set_ i _ hok⟩
  · rw [List.length_set]
    exact (far g _ _ hs (by decide)).trans hs
  · by_cases hj : i = j
    · subst hj
      rw [List.getElem?_set_self (by omega)] at h1 h2
      cases h1; cases h2
      exact hkv.keep fun b' cs hb' _ => far b' 5 cs hb' (by decide)
    · rw [List.getElem?_set_ne hj] at h1 h2
      exact (hkvs j u k' h1 h2).keep fun b' cs hb' _ => far b' 5 cs hb' (by decide)
theorem PIxP.slot (h : PIxP P w F g gk sz ks N) {p : List Int} {b : Nat} {s : Int} (hN : N p = some (b, s)) (s' : Int) (hP : P' (slotOf (upd N p (b, s')))) : PIxP P' (w.setCell ⟨b, 2, none⟩ (.int .i64 s')) F g gk sz ks (upd N p (b, s')) := by
  obtain ⟨c, r, s0, h0, hs, hc⟩ := h.self
  obtain ⟨vs, hv, ⟨rr, hrr⟩, hkvs⟩ := h.row
  obtain ⟨hFb, hb⟩ := h.tree.at_ _ _ _ hN
  have far : ∀ (b' : Nat) (t : TypeId) (cs : Array Value), w.heap[b']? = some (.cells cs t (0, 0)) → t ≠ 114 → (w.setCell ⟨b, 2, none⟩ (.int .i64 s')).heap[b']? = w.heap[b']? := fun b' t cs hb' ht => far_cell hb hb' ht
  have hroot : ∃ s2, upd N p (b, s') [] = some (r, s2) := by
    by_cases e : [] = p
    · rw [← e] at hN ⊢
      rw [h0] at hN
      cases hN
      exact ⟨_, upd_same _ _ _⟩
    · exact ⟨s0, by rw [upd_ne e]; exact h0⟩
  obtain ⟨s2, hs2⟩ := hroot
  exact ⟨⟨c, r, s2, hs2, (far g _ _ hs (by decide)).trans hs, hc⟩, ⟨vs, hv, ⟨rr, (far gk _ _ hrr (by decide)).trans hrr⟩, fun j u k' h1 h2 => (hkvs j u k' h1 h2).keep fun b' cs hb' _ => far b' 5 cs hb' (by decide)⟩, h.tree.slot hN s', hP, h.inF, fun b' hb' => by simpa [World.setCell] using h.lt b' hb', h.len, h.szs, h.ok⟩
end
theorem fresh_slot {S S' : List Int → Int} {sz : Int} {ks : List (Option (List Int))} (hks : KsOk sz ks) (hS : SlotsIs S ks) {k : Nat} {l : List Int} (hk : ks[k]? = some (some l)) (hS' : SlotsIs S' (part ks k)) : S' (path l) = -1 := by
  have hkl := (List.getElem?_eq_some_iff.1 hk).1
  rcases hS'.of (path l) with h | ⟨i, l', h1, h2, h3⟩
  · exact h
  · exfalso
    have hi := (List.getElem?_eq_some_iff.1 h2).1
    have hik : i < k := by
      by_cases h : i < k
      · exact h
      · unfold part at h2
        rw [List.getElem?_append_right (by simp; omega), List.getElem?_replicate] at h2
        split at h2 <;> cases h2
    have h4 : ks[i]? = some (some l') := by
      unfold part at h2
      rw [List.getElem?_append_left (by simp; omega), List.getElem?_take_of_lt hik] at h2
      exact h2
    have e1 := hS.held i l' h4
    have e2 := hS.held k l hk
    rw [h3, e2] at e1
    omega
set_option maxHeartbeats 4000000 in
set_option maxRecDepth 100000 in
theorem Copy_ {w : World} {F : Nat → Prop} {g gk : Nat} {sz : Int} {ks : List (Option (List Int))} {N : Nodes} (h : PIx w F g gk sz ks N) :
    Calls Try.prog 56 #[.pointer (some ⟨g, 0, none⟩)] w fun e w' => ∃ F' g' gk' N', e = .returned (.pointer (some ⟨g', 0, none⟩)) ∧ PIx w' F' g' gk' sz ks N' ∧ (∀ b, F' b → w.heap.size ≤ b) ∧ Below w.heap.size w w' := by
  obtain ⟨m, hmk⟩ : ∃ m, m = ks.length := ⟨_, rfl⟩
  obtain ⟨c1, r, s0, h0, g0, g1, g2, hc1⟩ := h.cells
  obtain ⟨vs, hv, hr, hkv⟩ := h.row
  have hlen := h.len
  have hsz := h.szs
  rw [← hmk] at g2 hc1 hlen
  obtain ⟨i1, hi1, hz1, hs1, hb1⟩ := info_parts (P := Try.prog) (e := 32) (z := .slice none 0 0) (size := 1) (bytes := 24) (by kernel_rfl)
  have hm1 : ∀ W, (Instr.makeSlice 38 (.int .i64 m) (.int .i64 m)).run Try.prog W = .ok (.slice (some ⟨W.heap.size, 0, none⟩) m m) (W.alloc (.cells (madeCells #[.slice none 0 0] m) 32)) := by
    intro W
    have := run_makeSlice (P := Try.prog) W 38 32 i1 (.slice none 0 0) Try.underlying38 hi1 hz1 .i64 .i64 m m (by omega) (by omega) (by rw [hs1]; omega) (by rw [hb1]; omega) (by omega)
    rw [hs1, Int.toNat_natCast, Nat.mul_one] at this
    exact this
  have H := Lib.hid h; have HMK := Lib.hid hmk; have HV := Lib.hid hv; have HR := Lib.hid hr; have HKV := Lib.hid hkv
  have HB0 := Lib.hid (Below.refl w.heap.size w)
  have a0 : ∀ o, (w.alloc o).cell? ⟨g, 0, none⟩ = some (.int .i64 sz) := fun o => old (below_alloc (Below.refl w.heap.size w) o) g0
  have a2 : ∀ o, (w.alloc o).cell? ⟨g, 2, none⟩ = some (.slice (some ⟨gk, 0, none⟩) m c1) := fun o => old (below_alloc (Below.refl w.heap.size w) o) g2
  have b0 : ∀ o o', ((w.alloc o).alloc o').cell? ⟨g, 0, none⟩ = some (.int .i64 sz) := fun o o' => old (below_alloc (below_alloc (Below.refl w.heap.size w) o) o') g0
  clear h h0 g1 hmk hv hr hkv hi1 hz1 hs1 hb1
  go_enter Try.func56, Try.ntmps56
  go_wp2
  go_region
  all_goals clear a0 a2 b0 hm1
  · have HS0 : Hid (∃ F' gk' N', PIx ((((w.alloc newNode).alloc (.cells (madeCells #[.slice none 0 0] m) 32)).alloc (.cells #[.int .i64 sz, .pointer (some ⟨w.heap.size, 0, none⟩), .slice (some ⟨w.heap.size + 1, 0, none⟩) m m] 116)).drew) F' (w.heap.size + 1 + 1) gk' sz (part ks 0) N' ∧ (∀ b, F' b → w.heap.size ≤ b) ∧ Below w.heap.size w ((((w.alloc newNode).alloc (.cells (madeCells #[.slice none 0 0] m) 32)).alloc (.cells #[.int .i64 sz, .pointer (some ⟨w.heap.size, 0, none⟩), .slice (some ⟨w.heap.size + 1, 0, none⟩) m m] 116)).drew)) := by
      rw [part_zero, ← HMK.out]
      refine Lib.hid ⟨_, w.heap.size + 1, _, (made (r := w.heap.size) (B := w.heap.size) ?_ ?_ ?_ (by omega) hsz (by omega)).drew, fun b hb => hb.1, (below_alloc (below_alloc (below_alloc HB0.out _) _) _).drew⟩
      · have := heap_alloc_new (w.alloc newNode) (.cells (madeCells #[.slice none 0 0] m) 32)
        exact blk_alloc (by simpa using this) _
      · exact blk_alloc (blk_alloc (heap_alloc_new w newNode) _) _
      · have e : ((w.alloc newNode).alloc (.cells (madeCells #[.slice none 0 0] m) 32)).heap.size = w.heap.size + 1 + 1 := by simp
        have := heap_alloc_new ((w.alloc newNode).alloc (.cells (madeCells #[.slice none 0 0] m) 32)) (.cells #[.int .i64 sz, .pointer (some ⟨w.heap.size, 0, none⟩), .slice (some ⟨w.heap.size + 1, 0, none⟩) m m] 116)
        rw [e] at this
        exact this
    have d2 : ∀ W, Below w.heap.size w W → W.cell? ⟨g, 2, none⟩ = some (.slice (some ⟨gk, 0, none⟩) m c1) := fun W hb => old hb g2
    have dd := d2 _ (by obtain ⟨_, _, _, _, _, hb⟩ := HS0.out; exact hb)
    generalize hgo : w.heap.size + 1 + 1 = go at *
    have HGO : Hid (w.heap.size < go) := Lib.hid (by omega)
    clear hgo g0 d2
    go_wp2
    clear dd
    go_loopw [27] (fun i wr => ∃ k : Nat, k ≤ m ∧ i = .int .i64 (k : Int) ∧ Hid (∃ F' gk' N', PIx wr F' go gk' sz (part ks k) N' ∧ (∀ b, F' b → w.heap.size ≤ b) ∧ Below w.heap.size w wr)) (fun i _ => m - (intOf i).toNat)
    case atStart => exact ⟨0, Nat.zero_le _, rfl, HS0⟩
    case round =>
      clear HS0
      obtain ⟨k, hk, rfl, HS⟩ := hrel
      obtain ⟨F1, gk1, N1, hP1, hF1, hBL⟩ := HS.out
      have HP1 := Lib.hid hP1; have HF1 := Lib.hid hF1; have HBL := Lib.hid hBL
      clear hP1 hF1 hBL
      by_cases hlt : k < m
      · have hkl : k < ks.length := by rw [← HMK.out]; exact hlt
        have hkh : k < vs.length := by rw [HV.out]; exact hkl
        have hcell := old HBL.out (HR.out.cell k hkh)
        have hvs : vs[k]? = some (vs[k]'hkh) := List.getElem?_eq_getElem hkh
        generalize vs[k]'hkh = v at hcell hvs
        cases hkk : ks[k]'hkl with
        | none =>
          have hks : ks[k]? = some none := by rw [List.getElem?_eq_getElem hkl, hkk]
          obtain rfl : v = .slice none 0 0 := HKV.out k v none hvs hks
          have hq := fun W => run_neq_slice_nil_any (P := Try.prog) W 32 5 none 0 0 0 0 Try.underlying32
          have HS2 : Hid (∃ F' gk' N', PIx wr F' go gk' sz (part ks (k + 1)) N' ∧ (∀ b, F' b → w.heap.size ≤ b) ∧ Below w.heap.size w wr) := Lib.hid (by rw [part_none ks k hks]; exact ⟨F1, gk1, N1, HP1.out, HF1.out, HBL.out⟩)
          clear hkk hks hkl hkh hvs HS
          go_wp2
          go_roundw
          case rel => exact ⟨k + 1, by omega, by go_num, HS2⟩
          case measure => simp [intOf]; omega
        | some l =>
          have hks : ks[k]? = some (some l) := by rw [List.getElem?_eq_getElem hkl, hkk]
          obtain ⟨b, cb, rfl, hb1, hbF, hrow⟩ := HKV.out k v (some l) hvs hks
          have hq := fun W => run_neq_slice_nil_any (P := Try.prog) W 32 5 (some ⟨b, 0, none⟩) l.length cb 0 0 Try.underlying32
          have hok := H.out.ok.2 l (List.mem_of_getElem? hks)
          have HROW := Lib.hid hrow
          have hbw := hrow.lt
          have hCL : ∀ n, Kd.C (Kd.int .u8) (wr.drewN n) (some ⟨b, 0, none⟩) l.length l := fun n => rowC (hrow.keep (HBL.out.block b hrow.lt)) (by have := hok.1; omega)
          have HCL := Lib.hid (fun n => clone_ (wr.drewN n) (some ⟨b, 0, none⟩) cb l (hCL n) (by have := hok.1; omega) (by have := hok.1; omega))
          have HKS := Lib.hid hks; have HOK := Lib.hid hok; have HKK := Lib.hid hkk
          obtain ⟨co, ro, so, ho0, ho1, ho2, ho3, hoc⟩ := HP1.out.cells
          obtain ⟨vo, hvo, hro, hko⟩ := HP1.out.row
          rw [part_len ks k (by omega), ← HMK.out] at ho3 hoc hvo
          have hoc0 := hro.cell k (by omega)
          generalize vo[k]'(by omega) = uo at hoc0
          have hof := hro.frozen k
          have HRO := Lib.hid hro
          clear hkk hks hbF hrow hok ho0 ho1 ho2 hvo hko hro hCL HS
          go_wp2_with fail
          go_region_with (go_at_call 74; refine ((HCL.out _).mono ?_); rintro e w5 ⟨b5, c5, rfl, k1, k2, k3, hB5⟩; have ho3' := old hB5 (show wr.drew.cell? _ = _ from ho3); have hoc0' := old hB5 (show wr.drew.cell? _ = _ from hoc0); have hof' := oldf hB5 (show Row wr.drew gk1 32 vo from HRO.out) k; have HK5 := Lib.hid (And.intro k1 (And.intro k2 k3)); have HB5 := Lib.hid hB5; clear k1 k2 k3 hB5)
          all_goals
            have hb5d : Below wr.heap.size wr.drew w5 := HB5.out
            have hsz5 : wr.heap.size ≤ w5.heap.size := hb5d.size
            have hwr := HBL.out.size
            have hk0 : wr.heap.size ≤ b5 := HK5.out.2.1
            have HP6 : Hid (PIxP (fun S => SlotsIs S (part ks k)) (w5.setCell ⟨gk1, k, none⟩ (.slice (some ⟨b5, 0, none⟩) l.length c5)) (fun b => F1 b ∨ b = b5) go gk1 sz (part ks (k + 1)) N1) := by
              have h1 : PIx w5 (fun b => F1 b ∨ b = b5) go gk1 sz (part ks k) N1 := (HP1.out.keep (w' := w5) (fun b hb => hb5d.block b (HP1.out.lt b hb)) hsz5).mono (fun b hb => .inl hb) (fun b hb => hb.elim (fun hb => Nat.lt_of_lt_of_le (HP1.out.lt b hb) hsz5) (fun e => e ▸ HK5.out.2.2.lt))
              have h2 := PIxP.key h1 k (by rw [part_len ks k (by rw [← HMK.out]; exact hk)]; rw [← HMK.out]; exact hlt) (.slice (some ⟨b5, 0, none⟩) l.length c5) (some l) ⟨b5, c5, rfl, HK5.out.1, .inr rfl, HK5.out.2.2⟩ (fun l' e => by cases e; exact HOK.out)
              rw [← HKK.out, part_set ks k (by rw [← HMK.out]; exact hlt)] at h2
              exact Lib.hid h2
            have HB6 : Hid (Below w.heap.size w (w5.setCell ⟨gk1, k, none⟩ (.slice (some ⟨b5, 0, none⟩) l.length c5))) := Lib.hid ((HBL.out.drew.trans (hb5d.mono hwr)).setCell (p := ⟨gk1, k, none⟩) (HF1.out _ HP1.out.inF.2) _)
            have HF6 : Hid (∀ b, F1 b ∨ b = b5 → w.heap.size ≤ b) := Lib.hid (fun b hb => hb.elim (HF1.out b) (fun e => by rw [e]; exact Nat.le_trans hwr hk0))
            have HC6 : Hid (Kd.C (Kd.int .u8) (w5.setCell ⟨gk1, k, none⟩ (.slice (some ⟨b5, 0, none⟩) l.length c5)) (some ⟨b, 0, none⟩) l.length l) := Lib.hid (rowC (HROW.out.keep (HB6.out.block b hbw)) (by have := HOK.out.1; omega))
            have hin : InOk sz l := ⟨HOK.out.1, HOK.out.2.1, HOK.out.2.2.1⟩
            have HL6 := Lib.hid (length_in HP6.out (some ⟨b, 0, none⟩) cb l HC6.out hb1 hin)
            have HA6 := Lib.hid (fun n => at_ (HP6.out.drewN n) (some ⟨b, 0, none⟩) cb l (Kd.C_drewN HC6.out n) hb1 hin (fun ad e _ h => by cases e; have hle : w.heap.size ≤ b := HF6.out _ h; omega))
            have HNW : Hid (slotOf N1 (path l) = -1) := Lib.hid (fresh_slot H.out.ok H.out.slots HKS.out HP1.out.slots)
            have HIN := Lib.hid hin
            generalize hW6 : w5.setCell ⟨gk1, k, none⟩ (.slice (some ⟨b5, 0, none⟩) l.length c5) = w6 at *
            clear ho3 hoc0 hof ho3' hoc0' hof' hb5d hsz5 hk0 hin hq hcell hW6
            go_wp2_with fail
            refine HL6.out.mono ?_
            rintro e w7 ⟨rfl, n7, rfl⟩
            go_wp2_with fail
            refine (HA6.out n7).mono ?_
            rintro e w8 ⟨b8, N8, F8, rfl, hN8, hG8, hP8, hS8⟩
            rw [HNW.out] at hN8
            have s8 := (hP8.tree.cells hN8).2.2.1
            have f8 := (hP8.tree.cells hN8).2.2.2 2
            have HS9 : Hid (∃ F' gk' N', PIx (w8.setCell ⟨b8, 2, none⟩ (.int .i64 (k : Int))) F' go gk' sz (part ks (k + 1)) N' ∧ (∀ b, F' b → w.heap.size ≤ b) ∧ Below w.heap.size w (w8.setCell ⟨b8, 2, none⟩ (.int .i64 (k : Int)))) := by
              have hkl : k < ks.length := by rw [← HMK.out]; exact hlt
              have hput : SlotsIs (slotOf (upd N8 (path l) (b8, (k : Int)))) (part ks (k + 1)) := by
                rw [← part_set ks k hkl, HKK.out]
                have h0 : SlotsIs (slotOf N8) (part ks k) := hP8.slots
                exact h0.put (part_at ks k hkl) (slotOf_some hN8) (slotOf_upd _ _ _ _) (fun q hq => slotOf_upd_ne hq)
              have hlow := hS8.low (B := w.heap.size) (by have := HB6.out.size; simpa using this) HF6.out
              exact Lib.hid ⟨F8, gk1, _, PIxP.slot hP8 hN8 (k : Int) hput, hlow, (hS8.below (pw_below_drewN HB6.out n7) HF6.out).setCell (p := ⟨b8, 2, none⟩) (hlow _ (hP8.tree.at_ _ _ _ hN8).1) _⟩
            clear hN8 hG8 hP8 hS8 HL6 HA6 HP6 HC6
            go_wp2
            go_roundw
            case rel => exact ⟨k + 1, by omega, by go_num, HS9⟩
            case measure => simp [intOf]; omega
      · obtain rfl : k = m := by omega
        have hP := HP1.out
        rw [show part ks k = ks by rw [HMK.out]; exact part_all ks] at hP
        have HP := Lib.hid hP
        clear hP
        go_wp2
        go_ret
        exact ⟨F1, _, gk1, N1, rfl, HP.out, HF1.out, HBL.out⟩
  · have HS0 : Hid (∃ F' gk' N', PIx ((((w.alloc (.cells (madeCells #[.slice none 0 0] m) 32)).alloc newNode).alloc (.cells #[.int .i64 sz, .pointer (some ⟨w.heap.size + 1, 0, none⟩), .slice (some ⟨w.heap.size, 0, none⟩) m m] 116)).drew) F' (w.heap.size + 1 + 1) gk' sz (part ks 0) N' ∧ (∀ b, F' b → w.heap.size ≤ b) ∧ Below w.heap.size w ((((w.alloc (.cells (madeCells #[.slice none 0 0] m) 32)).alloc newNode).alloc (.cells #[.int .i64 sz, .pointer (some ⟨w.heap.size + 1, 0, none⟩), .slice (some ⟨w.heap.size, 0, none⟩) m m] 116)).drew)) := by
      rw [part_zero, ← HMK.out]
      refine Lib.hid ⟨_, w.heap.size, _, (made (r := w.heap.size + 1) (B := w.heap.size) ?_ ?_ ?_ (by omega) hsz (by omega)).drew, fun b hb => hb.1, (below_alloc (below_alloc (below_alloc HB0.out _) _) _).drew⟩
      · exact blk_alloc (blk_alloc (heap_alloc_new w _) _) _
      · have := heap_alloc_new (w.alloc (.cells (madeCells #[.slice none 0 0] m) 32)) newNode
        exact blk_alloc (by simpa using this) _
      · have e : ((w.alloc (.cells (madeCells #[.slice none 0 0] m) 32)).alloc newNode).heap.size = w.heap.size + 1 + 1 := by simp
        have := heap_alloc_new ((w.alloc (.cells (madeCells #[.slice none 0 0] m) 32)).alloc newNode) (.cells #[.int .i64 sz, .pointer (some ⟨w.heap.size + 1, 0, none⟩), .slice (some ⟨w.heap.size, 0, none⟩) m m] 116)
        rw [e] at this
        exact this
    have d2 : ∀ W, Below w.heap.size w W → W.cell? ⟨g, 2, none⟩ = some (.slice (some ⟨gk, 0, none⟩) m c1) := fun W hb => old hb g2
    have dd := d2 _ (by obtain ⟨_, _, _, _, _, hb⟩ := HS0.out; exact hb)
    generalize hgo : w.heap.size + 1 + 1 = go at *
    have HGO : Hid (w.heap.size < go) := Lib.hid (by omega)
    clear hgo g0 d2
    go_wp2
    clear dd
    go_loopw [27] (fun i wr => ∃ k : Nat, k ≤ m ∧ i = .int .i64 (k : Int) ∧ Hid (∃ F' gk' N', PIx wr F' go gk' sz (part ks k) N' ∧ (∀ b, F' b → w.heap.size ≤ b) ∧ Below w.heap.size w wr)) (fun i _ => m - (intOf i).toNat)
    case atStart => exact ⟨0, Nat.zero_le _, rfl, HS0⟩
    case round =>
      clear HS0
      obtain ⟨k, hk, rfl, HS⟩ := hrel
      obtain ⟨F1, gk1, N1, hP1, hF1, hBL⟩ := HS.out
      have HP1 := Lib.hid hP1; have HF1 := Lib.hid hF1; have HBL := Lib.hid hBL
      clear hP1 hF1 hBL
      by_cases hlt : k < m
      · have hkl : k < ks.length := by rw [← HMK.out]; exact hlt
        have hkh : k < vs.length := by rw [HV.out]; exact hkl
        have hcell := old HBL.out (HR.out.cell k hkh)
        have hvs : vs[k]? = some (vs[k]'hkh) := List.getElem?_eq_getElem hkh
        generalize vs[k]'hkh = v at hcell hvs
        cases hkk : ks[k]'hkl with
        | none =>
          have hks : ks[k]? = some none := by rw [List.getElem?_eq_getElem hkl, hkk]
          obtain rfl : v = .slice none 0 0 := HKV.out k v none hvs hks
          have hq := fun W => run_neq_slice_nil_any (P := Try.prog) W 32 5 none 0 0 0 0 Try.underlying32
          have HS2 : Hid (∃ F' gk' N', PIx wr F' go gk' sz (part ks (k + 1)) N' ∧ (∀ b, F' b → w.heap.size ≤ b) ∧ Below w.heap.size w wr) := Lib.hid (by rw [part_none ks k hks]; exact ⟨F1, gk1, N1, HP1.out, HF1.out, HBL.out⟩)
          clear hkk hks hkl hkh hvs HS
          go_wp2
          go_roundw
          case rel => exact ⟨k + 1, by omega, by go_num, HS2⟩
          case measure => simp [intOf]; omega
        | some l =>
          have hks : ks[k]? = some (some l) := by rw [List.getElem?_eq_getElem hkl, hkk]
          obtain ⟨b, cb, rfl, hb1, hbF, hrow⟩ := HKV.out k v (some l) hvs hks
          have hq := fun W => run_neq_slice_nil_any (P := Try.prog) W 32 5 (some ⟨b, 0, none⟩) l.length cb 0 0 Try.underlying32
          have hok := H.out.ok.2 l (List.mem_of_getElem? hks)
          have HROW := Lib.hid hrow
          have hbw := hrow.lt
          have hCL : ∀ n, Kd.C (Kd.int .u8) (wr.drewN n) (some ⟨b, 0, none⟩) l.length l := fun n => rowC (hrow.keep (HBL.out.block b hrow.lt)) (by have := hok.1; omega)
          have HCL := Lib.hid (fun n => clone_ (wr.drewN n) (some ⟨b, 0, none⟩) cb l (hCL n) (by have := hok.1; omega) (by have := hok.1; omega))
          have HKS := Lib.hid hks; have HOK := Lib.hid hok; have HKK := Lib.hid hkk
          obtain ⟨co, ro, so, ho0, ho1, ho2, ho3, hoc⟩ := HP1.out.cells
          obtain ⟨vo, hvo, hro, hko⟩ := HP1.out.row
          rw [part_len ks k (by omega), ← HMK.out] at ho3 hoc hvo
          have hoc0 := hro.cell k (by omega)
          generalize vo[k]'(by omega) = uo at hoc0
          have hof := hro.frozen k
          have HRO := Lib.hid hro
          clear hkk hks hbF hrow hok ho0 ho1 ho2 hvo hko hro hCL HS
          go_wp2_with fail
          go_region_with (go_at_call 74; refine ((HCL.out _).mono ?_); rintro e w5 ⟨b5, c5, rfl, k1, k2, k3, hB5⟩; have ho3' := old hB5 (show wr.drew.cell? _ = _ from ho3); have hoc0' := old hB5 (show wr.drew.cell? _ = _ from hoc0); have hof' := oldf hB5 (show Row wr.drew gk1 32 vo from HRO.out) k; have HK5 := Lib.hid (And.intro k1 (And.intro k2 k3)); have HB5 := Lib.hid hB5; clear k1 k2 k3 hB5)
          all_goals
            have hb5d : Below wr.heap.size wr.drew w5 := HB5.out
            have hsz5 : wr.heap.size ≤ w5.heap.size := hb5d.size
            have hwr := HBL.out.size
            have hk0 : wr.heap.size ≤ b5 := HK5.out.2.1
            have HP6 : Hid (PIxP (fun S => SlotsIs S (part ks k)) (w5.setCell ⟨gk1, k, none⟩ (.slice (some ⟨b5, 0, none⟩) l.length c5)) (fun b => F1 b ∨ b = b5) go gk1 sz (part ks (k + 1)) N1) := by
              have h1 : PIx w5 (fun b => F1 b ∨ b = b5) go gk1 sz (part ks k) N1 := (HP1.out.keep (w' := w5) (fun b hb => hb5d.block b (HP1.out.lt b hb)) hsz5).mono (fun b hb => .inl hb) (fun b hb => hb.elim (fun hb => Nat.lt_of_lt_of_le (HP1.out.lt b hb) hsz5) (fun e => e ▸ HK5.out.2.2.lt))
              have h2 := PIxP.key h1 k (by rw [part_len ks k (by rw [← HMK.out]; exact hk)]; rw [← HMK.out]; exact hlt) (.slice (some ⟨b5, 0, none⟩) l.length c5) (some l) ⟨b5, c5, rfl, HK5.out.1, .inr rfl, HK5.out.2.2⟩ (fun l' e => by cases e; exact HOK.out)
              rw [← HKK.out, part_set ks k (by rw [← HMK.out]; exact hlt)] at h2
              exact Lib.hid h2
            have HB6 : Hid (Below w.heap.size w (w5.setCell ⟨gk1, k, none⟩ (.slice (some ⟨b5, 0, none⟩) l.length c5))) := Lib.hid ((HBL.out.drew.trans (hb5d.mono hwr)).setCell (p := ⟨gk1, k, none⟩) (HF1.out _ HP1.out.inF.2) _)
            have HF6 : Hid (∀ b, F1 b ∨ b = b5 → w.heap.size ≤ b) := Lib.hid (fun b hb => hb.elim (HF1.out b) (fun e => by rw [e]; exact Nat.le_trans hwr hk0))
            have HC6 : Hid (Kd.C (Kd.int .u8) (w5.setCell ⟨gk1, k, none⟩ (.slice (some ⟨b5, 0, none⟩) l.length c5)) (some ⟨b, 0, none⟩) l.length l) := Lib.hid (rowC (HROW.out.keep (HB6.out.block b hbw)) (by have := HOK.out.1; omega))
            have hin : InOk sz l := ⟨HOK.out.1, HOK.out.2.1, HOK.out.2.2.1⟩
            have HL6 := Lib.hid (length_in HP6.out (some ⟨b, 0, none⟩) cb l HC6.out hb1 hin)
            have HA6 := Lib.hid (fun n => at_ (HP6.out.drewN n) (some ⟨b, 0, none⟩) cb l (Kd.C_drewN HC6.out n) hb1 hin (fun ad e _ h => by cases e; have hle : w.heap.size ≤ b := HF6.out _ h; omega))
            have HNW : Hid (slotOf N1 (path l) = -1) := Lib.hid (fresh_slot H.out.ok H.out.slots HKS.out HP1.out.slots)
            have HIN := Lib.hid hin
            generalize hW6 : w5.setCell ⟨gk1, k, none⟩ (.slice (some ⟨b5, 0, none⟩) l.length c5) = w6 at *
            clear ho3 hoc0 hof ho3' hoc0' hof' hb5d hsz5 hk0 hin hq hcell hW6
            go_wp2_with fail
            refine HL6.out.mono ?_
            rintro e w7 ⟨rfl, n7, rfl⟩
            go_wp2_with fail
            refine (HA6.out n7).mono ?_
            rintro e w8 ⟨b8, N8, F8, rfl, hN8, hG8, hP8, hS8⟩
            rw [HNW.out] at hN8
            have s8 := (hP8.tree.cells hN8).2.2.1
            have f8 := (hP8.tree.cells hN8).2.2.2 2
            have HS9 : Hid (∃ F' gk' N', PIx (w8.setCell ⟨b8, 2, none⟩ (.int .i64 (k : Int))) F' go gk' sz (part ks (k + 1)) N' ∧ (∀ b, F' b → w.heap.size ≤ b) ∧ Below w.heap.size w (w8.setCell ⟨b8, 2, none⟩ (.int .i64 (k : Int)))) := by
              have hkl : k < ks.length := by rw [← HMK.out]; exact hlt
              have hput : SlotsIs (slotOf (upd N8 (path l) (b8, (k : Int)))) (part ks (k + 1)) := by
                rw [← part_set ks k hkl, HKK.out]
                have h0 : SlotsIs (slotOf N8) (part ks k) := hP8.slots
                exact h0.put (part_at ks k hkl) (slotOf_some hN8) (slotOf_upd _ _ _ _) (fun q hq => slotOf_upd_ne hq)
              have hlow := hS8.low (B := w.heap.size) (by have := HB6.out.size; simpa using this) HF6.out
              exact Lib.hid ⟨F8, gk1, _, PIxP.slot hP8 hN8 (k : Int) hput, hlow, (hS8.below (pw_below_drewN HB6.out n7) HF6.out).setCell (p := ⟨b8, 2, none⟩) (hlow _ (hP8.tree.at_ _ _ _ hN8).1) _⟩
            clear hN8 hG8 hP8 hS8 HL6 HA6 HP6 HC6
            go_wp2
            go_roundw
            case rel => exact ⟨k + 1, by omega, by go_num, HS9⟩
            case measure => simp [intOf]; omega
      · obtain rfl : k = m := by omega
        have hP := HP1.out
        rw [show part ks k = ks by rw [HMK.out]; exact part_all ks] at hP
        have HP := Lib.hid hP
        clear hP
        go_wp2
        go_ret
        exact ⟨F1, _, gk1, N1, rfl, HP.out, HF1.out, HBL.out⟩
end Go.Proofs.Ytfbajampfiodeaa.LpmZ
