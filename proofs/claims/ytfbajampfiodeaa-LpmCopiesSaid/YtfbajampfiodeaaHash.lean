/- hash.Index in memory: what its blocks hold; New, Find, free, Put, Del, walked by hand. -/
import Derived.Test.YtfbajampfiodeaaHm
import Derived.LaidEqlPtr
namespace Go.Proofs.Ytfbajampfiodeaa.Hash
open Go.RowKit Go.Maps Go.Proofs.Ytfbajampfiodeaa.PArrayPlays Go.Proofs.YtfbajampfiodeaaW.PrintWords Go.Proofs.YtfbajampfiodeaaW.PrintLast Go.Proofs.YtfbajampfiodeaaW.PrintMore Go.Proofs.Ytfbajampfiodeaa.Mw Go.Proofs.Ytfbajampfiodeaa.Rx Go.Proofs.Ytfbajampfiodeaa.RxOps Go.Proofs.Ytfbajampfiodeaa.RxPut Go.Proofs.Ytfbajampfiodeaa.Hm
set_option linter.unusedVariables false
/-- What keys may be. -/
structure KeysOk (sz : Int) (ks : List (Option (List Int))) : Prop where
  len : 0 < ks.length ∧ ks.length ≤ 64
  szs : 0 < sz ∧ sz ≤ 16
  kb : ∀ l, some l ∈ ks → (l.length : Int) = sz ∧ Bs l
theorem KeysOk.set_ {sz : Int} {ks : List (Option (List Int))} (h : KeysOk sz ks) (i : Nat) (k : Option (List Int)) (hk : ∀ l, k = some l → (l.length : Int) = sz ∧ Bs l) : KeysOk sz (ks.set i k) :=
  ⟨by rw [List.length_set]; exact h.len, h.szs, fun l hl => (List.mem_or_eq_of_mem_set hl).elim (h.kb l) (fun e => hk l e.symm)⟩
/-- The index lies at g, its map at bm, what is taken at gt; all in blocks of F. -/
structure HIx (w : World) (F : Nat → Prop) (g bm gt ct : Nat) (sz : Int) (ks : List (Option (List Int))) : Prop where
  self : ∃ c : Nat, w.heap[g]? = some (.cells #[.int .i64 sz, .map (some bm), .slice (some ⟨gt, 0, none⟩) ks.length c] 101 (0, 0)) ∧ ks.length ≤ c
  map : ∃ D : DataW Unit, w.ownsMap Try.prog 9 (plainElem Try.prog 3) bm ct D ∧ MapIs D ks
  taken : Row w gt 4 (ks.map fun k => .bool k.isSome)
  inF : F g ∧ F bm ∧ F gt
  lt : ∀ b, F b → b < w.heap.size
  ok : KeysOk sz ks
theorem owns_keep {w w' : World} {bm ct : Nat} {D : DataW Unit} (h : w.ownsMap Try.prog 9 (plainElem Try.prog 3) bm ct D) (hk : w'.heap[bm]? = w.heap[bm]?) : w'.ownsMap Try.prog 9 (plainElem Try.prog 3) bm ct D := by
  obtain ⟨es, clock, hb, r⟩ := h
  exact ⟨es, clock, hk.trans hb, r⟩
theorem owns_ne {w : World} {bm ct b t : Nat} {D : DataW Unit} {cs : Array Value} (h : w.ownsMap Try.prog 9 (plainElem Try.prog 3) bm ct D) (hb : w.heap[b]? = some (.cells cs t (0, 0))) : b ≠ bm := by
  obtain ⟨es, clock, h, r⟩ := h
  rintro rfl
  rw [hb] at h
  cases h
theorem Step.of_grown {w w1 : World} {b : Nat} {F : Nat → Prop} (hg : w.grownBy w1 (some b)) (hb : F b) : Step w w1 F F :=
  ⟨hg.os, hg.tape, hg.output, hg.size, fun k hk hF => hg.block k hk (fun e => by cases e; exact hF hb), fun _ h => .inl h⟩
section
variable {w w' : World} {F F' : Nat → Prop} {g bm gt ct : Nat} {sz : Int} {ks : List (Option (List Int))}
theorem HIx.keep (h : HIx w F g bm gt ct sz ks) (hk : ∀ b, F b → w'.heap[b]? = w.heap[b]?) (hsz : w.heap.size ≤ w'.heap.size) : HIx w' F g bm gt ct sz ks := by
  obtain ⟨c, hs, hc⟩ := h.self
  obtain ⟨D, hD, hm⟩ := h.map
  exact ⟨⟨c, (hk g h.inF.1).trans hs, hc⟩, ⟨D, owns_keep hD (hk bm h.inF.2.1), hm⟩, h.taken.keep (hk gt h.inF.2.2), h.inF, fun b hb => Nat.lt_of_lt_of_le (h.lt b hb) hsz, h.ok⟩
theorem HIx.step {G G' : Nat → Prop} (h : HIx w F g bm gt ct sz ks) (hs : Step w w' G G') (ha : ∀ b, F b → ¬ G b) : HIx w' F g bm gt ct sz ks :=
  h.keep (fun b hb => hs.block b (h.lt b hb) (ha b hb)) hs.size
theorem HIx.drewN (h : HIx w F g bm gt ct sz ks) (n : Nat) : HIx (w.drewN n) F g bm gt ct sz ks := h.keep (fun _ _ => rfl) (Nat.le_refl _)
theorem HIx.below (h : HIx w F g bm gt ct sz ks) (hb : Below w.heap.size w w') : HIx w' F g bm gt ct sz ks := h.keep (fun b hF => hb.block b (h.lt b hF)) hb.size
theorem HIx.alloc (h : HIx w F g bm gt ct sz ks) (o : Obj) : HIx (w.alloc o) F g bm gt ct sz ks := h.keep (fun b hF => Below.heap_alloc w o b (h.lt b hF)) (by simp)
theorem HIx.more (h : HIx w F g bm gt ct sz ks) {ct' : Nat} (hc : ct ≤ ct') : HIx w F g bm gt ct' sz ks := by
  obtain ⟨D, hD, hm⟩ := h.map
  exact ⟨h.self, ⟨D, hD.mono hc, hm⟩, h.taken, h.inF, h.lt, h.ok⟩
theorem HIx.cells (h : HIx w F g bm gt ct sz ks) : ∃ c : Nat, w.cell? ⟨g, 0, none⟩ = some (.int .i64 sz) ∧ w.cell? ⟨g, 1, none⟩ = some (.map (some bm)) ∧ w.cell? ⟨g, 2, none⟩ = some (.slice (some ⟨gt, 0, none⟩) ks.length c) ∧ ks.length ≤ c := by
  obtain ⟨c, hs, hc⟩ := h.self
  exact ⟨c, (blk_cell hs 0).trans rfl, (blk_cell hs 1).trans rfl, (blk_cell hs 2).trans rfl, hc⟩
theorem HIx.tk (h : HIx w F g bm gt ct sz ks) (i : Nat) (hi : i < ks.length) : w.cell? ⟨gt, i, none⟩ = some (.bool (ks[i]'hi).isSome) := by
  rw [h.taken.cell i (by rw [List.length_map]; exact hi), List.getElem_map]
/-- A slot's mark is laid, behind a turn of the map. -/
theorem HIx.turn {w1 : World} {ct' : Nat} {D : DataW Unit} (h : HIx w F g bm gt ct sz ks) (hg : w.grownBy w1 (some bm)) (i : Nat) (hi : i < ks.length) (k : Option (List Int)) (hk : ∀ l, k = some l → (l.length : Int) = sz ∧ Bs l)
    (hD : w1.ownsMap Try.prog 9 (plainElem Try.prog 3) bm ct' D) (hm : MapIs D (ks.set i k)) :
    HIx (w1.setCell ⟨gt, i, none⟩ (.bool k.isSome)) F g bm gt ct' sz (ks.set i k) ∧ Step w (w1.setCell ⟨gt, i, none⟩ (.bool k.isSome)) F F ∧
      w1.cell? ⟨g, 1, none⟩ = some (.map (some bm)) ∧ (∃ c, w1.cell? ⟨g, 2, none⟩ = some (.slice (some ⟨gt, 0, none⟩) ks.length c) ∧ ks.length ≤ c) ∧ w1.cell? ⟨gt, i, none⟩ = some (.bool (ks[i]'hi).isSome) ∧ w1.frozen? ⟨gt, i, none⟩ = false := by
  obtain ⟨c, hs, hc⟩ := h.self
  obtain ⟨D0, hD0, hm0⟩ := h.map
  obtain ⟨r, hr⟩ := h.taken
  have b1 := (hg.block g (blk_lt hs) (fun e => owns_ne hD0 hs (by injection e))).trans hs
  have b2 := (hg.block gt (blk_lt hr) (fun e => owns_ne hD0 hr (by injection e))).trans hr
  have t1 : Row w1 gt 4 (ks.map fun k => .bool k.isSome) := ⟨r, b2⟩
  have hne : g ≠ gt := blk_ne hs hr (by decide)
  refine ⟨⟨⟨c, ?_, by rw [List.length_set]; exact hc⟩, ⟨D, owns_keep hD (Below.heap_setCell w1 _ _ bm (owns_ne hD b2).symm), hm⟩, ?_, h.inF, fun b hb => ?_, h.ok.set_ i k hk⟩, (Step.of_grown hg h.inF.2.1).setCell (.inl h.inF.2.2) _, (blk_cell b1 1).trans rfl, ⟨c, (blk_cell b1 2).trans rfl, hc⟩, ?_, t1.frozen i⟩
  · rw [List.length_set]
    exact (Below.heap_setCell w1 _ _ g hne).trans b1
  · have := t1.set_ i (by rw [List.length_map]; exact hi) (.bool k.isSome)
    rw [List.map_set]
    exact this
  · have := h.lt b hb
    have := hg.size
    simp [World.setCell]
    omega
  · rw [t1.cell i (by rw [List.length_map]; exact hi), List.getElem_map]
theorem sameAt_len {ks : List (Option (List Int))} (h : KeysOk sz ks) {l : List Int} (hl : (l.length : Int) ≠ sz) : sameAt l ks 0 = -1 := by
  rcases same_slot l ks with e | ⟨i, e, _⟩
  · exact e
  · exact absurd (h.kb l (List.mem_of_getElem? (same_some e))).1 hl
/-! ### the methods -/
theorem New_bad (s m : Int) (w : World) (h : s < 1 ∨ s > 16 ∨ m < 1 ∨ m > 64) :
    Calls Try.prog 29 #[.int .i64 s, .int .i64 m] w fun e w' => e = .returned (.tuple #[.pointer none, .int .i64 2]) ∧ w = w' := by
  by_cases h1 : s < 1
  · clear h
    go_enter Try.func29, Try.ntmps29
    go_wp2
    go_ret2
    exact ⟨rfl, rfl⟩
  · by_cases h2 : s > 16
    · clear h
      go_enter Try.func29, Try.ntmps29
      go_wp2
      go_ret2
      exact ⟨rfl, rfl⟩
    · by_cases h3 : m < 1
      · clear h
        go_enter Try.func29, Try.ntmps29
        go_wp2
        go_ret2
        exact ⟨rfl, rfl⟩
      · have h4 : m > 64 := by omega
        clear h
        go_enter Try.func29, Try.ntmps29
        go_wp2
        go_ret2
        exact ⟨rfl, rfl⟩
theorem Find_nil (A : Option Addr) (l c : Nat) (w : World) :
    Calls Try.prog 33 #[.pointer none, .slice A l c] w fun e w' => e = .returned (.tuple #[.int .i64 0, .bool false]) ∧ w = w' := by
  go_enter Try.func33, Try.ntmps33
  go_wp2
  go_ret2
  exact ⟨rfl, rfl⟩
theorem Put_nil (A : Option Addr) (l c : Nat) (f : Int) (w : World) :
    Calls Try.prog 35 #[.pointer none, .slice A l c, .int .u64 f] w fun e w' => e = .returned (.tuple #[.int .i64 0, .bool false, .int .i64 1]) ∧ w = w' := by
  go_enter Try.func35, Try.ntmps35
  go_wp2
  go_ret3
  exact ⟨rfl, rfl⟩
theorem Del_nil (A : Option Addr) (l c : Nat) (w : World) :
    Calls Try.prog 34 #[.pointer none, .slice A l c] w fun e w' => e = .returned (.tuple #[.int .i64 0, .int .i64 1]) ∧ w = w' := by
  go_enter Try.func34, Try.ntmps34
  go_wp2
  go_ret2
  exact ⟨rfl, rfl⟩
theorem Keys_nil (w : World) :
    Calls Try.prog 32 #[.pointer none] w fun e w' => e = .returned (.slice none 0 0) ∧ w = w' := by
  go_enter Try.func32, Try.ntmps32
  go_wp2
  go_ret
  exact ⟨rfl, rfl⟩
theorem Copy_nil (w : World) :
    Calls Try.prog 36 #[.pointer none] w fun e w' => e = .returned (.pointer none) ∧ w = w' := by
  go_enter Try.func36, Try.ntmps36
  go_wp2
  go_ret
  exact ⟨rfl, rfl⟩
theorem Find_ (h : HIx w F g bm gt ct sz ks) (A : Option Addr) (c : Nat) (l : List Int) (hC : Kd.C (Kd.int .u8) w A l.length l) (hlb : Bs l) :
    Calls Try.prog 33 #[.pointer (some ⟨g, 0, none⟩), .slice A l.length c] w fun e w' => e = .returned (.tuple #[.int .i64 (max (sameAt l ks 0) 0), .bool (decide (0 ≤ sameAt l ks 0))]) ∧ ∃ n, w' = w.drewN n := by
  obtain ⟨c1, g0, g1, g2, hc1⟩ := h.cells
  obtain ⟨D, hD, hm⟩ := h.map
  have hcv := Kd.C_string (P := Try.prog) (A := A) (c := c) Try.underlying32 Try.underlying5 Try.underlying9 (Kd.C_drew hC)
  rcases same_slot l ks with e | ⟨i, e, hi⟩
  · have hlk := look_miss (w := w.drew) hD hm (fun l hl => (h.ok.kb l hl).2) l hlb hC.2.1 (by omega)
    rw [e]
    clear h hD hm hC g0 g2 hc1 e
    go_enter Try.func33, Try.ntmps33
    go_wp2
    go_region
    go_wp2
    go_ret2
    exact ⟨rfl, ⟨_, rfl⟩⟩
  · have hlk := look_hit (w := w.drew) hD hm l hC.2.1 i e
    rw [e, show max (i : Int) 0 = i by omega, decide_eq_true (show (0 : Int) ≤ i by omega)]
    clear h hD hm hC g0 g2 hc1 e
    go_enter Try.func33, Try.ntmps33
    go_wp2
    go_region
    go_wp2
    go_ret2
    exact ⟨rfl, ⟨_, rfl⟩⟩
theorem free_ (h : HIx w F g bm gt ct sz ks) :
    Calls Try.prog 63 #[.pointer (some ⟨g, 0, none⟩)] w fun e w' => e = .returned (.int .i64 (freeAt ks 0)) ∧ w = w' := by
  obtain ⟨c1, g0, g1, g2, hc1⟩ := h.cells
  have hlen := h.ok.len
  have HT := Lib.hid h
  clear h g0 g1 hc1
  go_enter Try.func63, Try.ntmps63
  go_wp2
  go_loop [10] (fun i => ∃ k : Nat, k ≤ ks.length ∧ i = .int .i64 (k : Int) ∧ Hid (freeAt ks 0 = freeAt (ks.drop k) k)) (fun i => ks.length - (intOf i).toNat)
  case atStart => exact ⟨0, Nat.zero_le _, rfl, Lib.hid rfl⟩
  case round =>
    obtain ⟨k, hk, rfl, HS⟩ := hrel
    by_cases hlt : k < ks.length
    · have ht := HT.out.tk k hlt
      cases hkk : ks[k]'hlt with
      | none =>
        have hks : ks[k]? = some none := by rw [List.getElem?_eq_getElem hlt, hkk]
        rw [hkk] at ht
        have HS2 := Lib.hid (HS.out.trans (free_none hks))
        have ht2 : w.cell? ⟨gt, k, none⟩ = some (.bool false) := ht
        clear hkk hks HS ht
        go_wp2
        go_ret
        exact ⟨by rw [HS2.out]; rfl, rfl⟩
      | some l =>
        have hks : ks[k]? = some (some l) := by rw [List.getElem?_eq_getElem hlt, hkk]
        rw [hkk] at ht
        have HS2 := Lib.hid (HS.out.trans (free_some hks))
        have ht2 : w.cell? ⟨gt, k, none⟩ = some (.bool true) := ht
        clear hkk hks HS ht
        go_wp2
        go_round
        case rel => exact ⟨k + 1, by omega, by go_num, HS2⟩
        case measure => simp [intOf] <;> omega
    · go_wp2
      go_ret
      exact ⟨by rw [HS.out, List.drop_eq_nil_of_le (by omega)]; rfl, rfl⟩
end
end Go.Proofs.Ytfbajampfiodeaa.Hash
