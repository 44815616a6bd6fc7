/- The document's index (posternref06.Index) in memory: what its blocks hold; what keeps them; touch, Fits, Same, walked by hand. -/
import Derived.Test.YtfbajampfiodeaaMw
import Derived.Test.YtfbajampfiodeaaFns
import Derived.WalkSpells
import Derived.Outline
import Derived.BigRegion
namespace Go.Proofs.Ytfbajampfiodeaa.Rx
open Go.RowKit Go.Proofs.YtfbajampfiodeaaW.PrintWords Go.Proofs.YtfbajampfiodeaaW.PrintLast Go.Proofs.YtfbajampfiodeaaW.PrintMore Go.Proofs.Ytfbajampfiodeaa.Mw
set_option linter.unusedVariables false

/-- A key's slot: nil, or bytes in a block of F. -/
def KeyV (w : World) (F : Nat → Prop) (v : Value) : Option (List Int) → Prop
  | none => v = .slice none 0 0
  | some l => ∃ b c, v = .slice (some ⟨b, 0, none⟩) l.length c ∧ l.length ≤ c ∧ F b ∧ Row w b 5 (l.map (Value.int .u8))

/-- The index lies at g, its slots at gs, its times at gw; all in blocks of F. -/
structure RIx (w : World) (F : Nat → Prop) (g gs gw : Nat) (kd sz mx ck : Int) (ks : List (Option (List Int))) (wn : List Int) : Prop where
  self : ∃ c1 c2 : Nat, w.heap[g]? = some (.cells #[.int .i64 kd, .int .i64 sz, .int .i64 mx, .slice (some ⟨gs, 0, none⟩) ks.length c1, .slice (some ⟨gw, 0, none⟩) ks.length c2, .int .i64 ck] 91 (0, 0)) ∧ ks.length ≤ c1 ∧ ks.length ≤ c2
  wlen : wn.length = ks.length
  row : ∃ hs : List Value, hs.length = ks.length ∧ Row w gs 32 hs ∧ ∀ (i : Nat) (v : Value) (k : Option (List Int)), hs[i]? = some v → ks[i]? = some k → KeyV w F v k
  wrow : Row w gw 3 (wn.map (Value.int .i64))
  inF : F g ∧ F gs ∧ F gw
  lt : ∀ b, F b → b < w.heap.size
  len : 0 < ks.length ∧ ks.length ≤ 64
  clk : 0 ≤ ck
  szs : 0 < sz ∧ sz ≤ 16
  kb : ∀ l, some l ∈ ks → (l.length : Int) = sz ∧ ∀ x ∈ l, 0 ≤ x ∧ x ≤ 255

section
variable {w w' : World} {F F' : Nat → Prop} {g gs gw : Nat} {kd sz mx ck : Int} {ks : List (Option (List Int))} {wn : List Int}
theorem KeyV.keep {v : Value} {k : Option (List Int)} (h : KeyV w F v k) (hk : ∀ b cs, w.heap[b]? = some (.cells cs 5 (0, 0)) → F b → w'.heap[b]? = w.heap[b]?) : KeyV w' F v k := by
  cases k with
  | none => exact h
  | some l =>
    obtain ⟨b, c, e, h1, h4, r, hr⟩ := h
    exact ⟨b, c, e, h1, h4, r, (hk b _ hr h4).trans hr⟩
theorem KeyV.mono {v : Value} {k : Option (List Int)} (h : KeyV w F v k) (hF : ∀ b, F b → F' b) : KeyV w F' v k := by
  cases k with
  | none => exact h
  | some l =>
    obtain ⟨b, c, e, h1, h4, h5⟩ := h
    exact ⟨b, c, e, h1, hF b h4, h5⟩
/-- Whatever leaves its blocks as they are keeps it. -/
theorem RIx.keep (h : RIx w F g gs gw kd sz mx ck ks wn) (hk : ∀ b, F b → w'.heap[b]? = w.heap[b]?) (hsz : w.heap.size ≤ w'.heap.size) : RIx w' F g gs gw kd sz mx ck ks wn := by
  obtain ⟨c1, c2, hs, hc1, hc2⟩ := h.self
  obtain ⟨vs, hv, hr, hkv⟩ := h.row
  exact ⟨⟨c1, c2, (hk g h.inF.1).trans hs, hc1, hc2⟩, h.wlen, ⟨vs, hv, hr.keep (hk gs h.inF.2.1), fun i v k h1 h2 => (hkv i v k h1 h2).keep fun b cs hb hB => hk b hB⟩, h.wrow.keep (hk gw h.inF.2.2), h.inF, fun b hb => Nat.lt_of_lt_of_le (h.lt b hb) hsz, h.len, h.clk, h.szs, h.kb⟩
theorem RIx.step {G G' : Nat → Prop} (h : RIx w F g gs gw kd sz mx ck ks wn) (hs : Step w w' G G') (ha : ∀ b, F b → ¬ G b) : RIx w' F g gs gw kd sz mx ck ks wn :=
  h.keep (fun b hb => hs.block b (h.lt b hb) (ha b hb)) hs.size
theorem RIx.drewN (h : RIx w F g gs gw kd sz mx ck ks wn) (n : Nat) : RIx (w.drewN n) F g gs gw kd sz mx ck ks wn := h.keep (fun _ _ => rfl) (Nat.le_refl _)
theorem RIx.below (h : RIx w F g gs gw kd sz mx ck ks wn) (hb : Below w.heap.size w w') : RIx w' F g gs gw kd sz mx ck ks wn := h.keep (fun b hF => hb.block b (h.lt b hF)) hb.size
theorem RIx.alloc (h : RIx w F g gs gw kd sz mx ck ks wn) (o : Obj) : RIx (w.alloc o) F g gs gw kd sz mx ck ks wn := h.keep (fun b hF => Below.heap_alloc w o b (h.lt b hF)) (by simp)
theorem RIx.mono (h : RIx w F g gs gw kd sz mx ck ks wn) (hF : ∀ b, F b → F' b) (hl : ∀ b, F' b → b < w.heap.size) : RIx w F' g gs gw kd sz mx ck ks wn := by
  obtain ⟨vs, hv, hr, hkv⟩ := h.row
  exact ⟨h.self, h.wlen, ⟨vs, hv, hr, fun i v k h1 h2 => (hkv i v k h1 h2).mono hF⟩, h.wrow, ⟨hF _ h.inF.1, hF _ h.inF.2.1, hF _ h.inF.2.2⟩, hl, h.len, h.clk, h.szs, h.kb⟩
/-- The clock alone is set. -/
theorem RIx.clock (h : RIx w F g gs gw kd sz mx ck ks wn) (c : Int) (hc : 0 ≤ c) : RIx (w.setCell ⟨g, 5, none⟩ (.int .i64 c)) F g gs gw kd sz mx c ks wn := by
  obtain ⟨c1, c2, hs, hc1, hc2⟩ := h.self
  obtain ⟨vs, hv, hr, hkv⟩ := h.row
  have far : ∀ (b : Nat) (cs : Array Value) (t : TypeId), w.heap[b]? = some (.cells cs t (0, 0)) → t ≠ 91 → (w.setCell ⟨g, 5, none⟩ (.int .i64 c)).heap[b]? = w.heap[b]? := fun b cs t hb ht =>
    Below.heap_setCell w ⟨g, 5, none⟩ _ b (blk_ne hb hs ht)
  refine ⟨⟨c1, c2, ?_, hc1, hc2⟩, h.wlen, ⟨vs, hv, hr.keep ?_, fun i v k h1 h2 => (hkv i v k h1 h2).keep fun b cs hb _ => far b cs 5 hb (by decide)⟩, h.wrow.keep ?_, h.inF, fun b hb => by simpa [World.setCell] using h.lt b hb, h.len, hc, h.szs, h.kb⟩
  · exact blk_put hs 5 _ rfl
  · obtain ⟨r, hr⟩ := hr; exact far gs _ _ hr (by decide)
  · obtain ⟨r, hr⟩ := h.wrow; exact far gw _ _ hr (by decide)
/-- A time is set. -/
theorem RIx.time (h : RIx w F g gs gw kd sz mx ck ks wn) (i : Nat) (hi : i < ks.length) (c : Int) : RIx (w.setCell ⟨gw, i, none⟩ (.int .i64 c)) F g gs gw kd sz mx ck ks (wn.set i c) := by
  obtain ⟨c1, c2, hs, hc1, hc2⟩ := h.self
  obtain ⟨vs, hv, hr, hkv⟩ := h.row
  obtain ⟨rw_, hrw⟩ := h.wrow
  have far : ∀ (b : Nat) (cs : Array Value) (t : TypeId), w.heap[b]? = some (.cells cs t (0, 0)) → t ≠ 3 → (w.setCell ⟨gw, i, none⟩ (.int .i64 c)).heap[b]? = w.heap[b]? := fun b cs t hb ht =>
    Below.heap_setCell w ⟨gw, i, none⟩ _ b (blk_ne hb hrw ht)
  refine ⟨⟨c1, c2, (far g _ _ hs (by decide)).trans hs, hc1, hc2⟩, by rw [List.length_set]; exact h.wlen, ⟨vs, hv, hr.keep ?_, fun j v k h1 h2 => (hkv j v k h1 h2).keep fun b cs hb _ => far b cs 5 hb (by decide)⟩, ?_, h.inF, fun b hb => by simpa [World.setCell] using h.lt b hb, h.len, h.clk, h.szs, h.kb⟩
  · obtain ⟨r, hr⟩ := hr; exact far gs _ _ hr (by decide)
  · have := h.wrow.set_ i (by rw [List.length_map, h.wlen]; exact hi) (.int .i64 c)
    rwa [← List.map_set] at this
/-- A slot is set. -/
theorem RIx.key (h : RIx w F g gs gw kd sz mx ck ks wn) (i : Nat) (hi : i < ks.length) (v : Value) (k : Option (List Int)) (hkv : KeyV w F v k) (hk2 : ∀ l, k = some l → (l.length : Int) = sz ∧ ∀ x ∈ l, 0 ≤ x ∧ x ≤ 255) : RIx (w.setCell ⟨gs, i, none⟩ v) F g gs gw kd sz mx ck (ks.set i k) wn := by
  obtain ⟨c1, c2, hs, hc1, hc2⟩ := h.self
  obtain ⟨vs, hv, hr, hkvs⟩ := h.row
  obtain ⟨rr, hrr⟩ := hr
  have far : ∀ (b : Nat) (cs : Array Value) (t : TypeId), w.heap[b]? = some (.cells cs t (0, 0)) → t ≠ 32 → (w.setCell ⟨gs, i, none⟩ v).heap[b]? = w.heap[b]? := fun b cs t hb ht =>
    Below.heap_setCell w ⟨gs, i, none⟩ _ b (blk_ne hb hrr ht)
  refine ⟨⟨c1, c2, ?_, by rw [List.length_set]; exact hc1, by rw [List.length_set]; exact hc2⟩, by rw [List.length_set]; exact h.wlen, ⟨vs.set i v, by rw [List.length_set, List.length_set]; exact hv, Row.set_ ⟨rr, hrr⟩ i (by omega) v, fun j u k' h1 h2 => ?_⟩, h.wrow.keep ?_, h.inF, fun b hb => by simpa [World.setCell] using h.lt b hb, by rw [List.length_set]; exact h.len, h.clk, h.szs, fun l hl => ?_⟩
  · rw [List.length_set]; exact (far g _ _ hs (by decide)).trans hs
  · by_cases hj : i = j
    · subst hj
      rw [List.getElem?_set_self (by omega)] at h1 h2
      cases h1; cases h2
      exact hkv.keep fun b cs hb _ => far b cs 5 hb (by decide)
    · rw [List.getElem?_set_ne hj] at h1 h2
      exact (hkvs j u k' h1 h2).keep fun b cs hb _ => far b cs 5 hb (by decide)
  · obtain ⟨r, hr⟩ := h.wrow; exact far gw _ _ hr (by decide)
  · rcases List.mem_or_eq_of_mem_set hl with hl | hl
    · exact h.kb l hl
    · exact hk2 l hl.symm
theorem RIx.cells (h : RIx w F g gs gw kd sz mx ck ks wn) : ∃ c1 c2 : Nat, w.cell? ⟨g, 0, none⟩ = some (.int .i64 kd) ∧ w.cell? ⟨g, 1, none⟩ = some (.int .i64 sz) ∧ w.cell? ⟨g, 2, none⟩ = some (.int .i64 mx) ∧ w.cell? ⟨g, 3, none⟩ = some (.slice (some ⟨gs, 0, none⟩) ks.length c1) ∧ w.cell? ⟨g, 4, none⟩ = some (.slice (some ⟨gw, 0, none⟩) ks.length c2) ∧ w.cell? ⟨g, 5, none⟩ = some (.int .i64 ck) ∧ (∀ i, w.frozen? ⟨g, i, none⟩ = false) ∧ ks.length ≤ c1 ∧ ks.length ≤ c2 := by
  obtain ⟨c1, c2, hs, h1, h2⟩ := h.self
  exact ⟨c1, c2, (blk_cell hs 0).trans rfl, (blk_cell hs 1).trans rfl, (blk_cell hs 2).trans rfl, (blk_cell hs 3).trans rfl, (blk_cell hs 4).trans rfl, (blk_cell hs 5).trans rfl, fun i => blk_frozen hs i, h1, h2⟩
theorem RIx.ne (h : RIx w F g gs gw kd sz mx ck ks wn) : g ≠ gs ∧ g ≠ gw ∧ gs ≠ gw := by
  obtain ⟨c1, c2, hs, _⟩ := h.self
  obtain ⟨vs, hv, ⟨r, hr⟩, _⟩ := h.row
  obtain ⟨r2, hw⟩ := h.wrow
  exact ⟨blk_ne hs hr (by decide), blk_ne hs hw (by decide), blk_ne hr hw (by decide)⟩
/-- The times behind a touch. -/
def touched (wn : List Int) (r c : Int) : List Int := if r < 0 then wn else wn.set r.toNat c
theorem touch_neg (h : RIx w F g gs gw kd sz mx ck ks wn) (hck : ck < 4611686018427387904) (at_ : Int) (hat : at_ < 0) :
    Calls Try.prog 80 #[.pointer (some ⟨g, 0, none⟩), .int .i64 at_] w fun e w' => e = .returned (.tuple #[]) ∧ RIx w' F g gs gw kd sz mx (ck + 1) ks wn ∧ Step w w' F F := by
  obtain ⟨c1, c2, g0, g1, g2, g3, g4, g5, gf, hc1, hc2⟩ := h.cells
  have f5 := gf 5
  have hclk := h.clk
  have HF := Lib.hid gf
  have H := Lib.hid h
  clear gf h g0 g1 g2 g3 hc1 hc2
  go_enter Try.func80, Try.ntmps80
  go_wp2
  go_end0
  exact ⟨rfl, H.out.clock _ (by omega), (Step.refl _ _).setCell (.inl H.out.inF.1) _⟩
theorem touch_at (h : RIx w F g gs gw kd sz mx ck ks wn) (hck : ck < 4611686018427387904) (i : Nat) (hi : i < ks.length) :
    Calls Try.prog 80 #[.pointer (some ⟨g, 0, none⟩), .int .i64 (i : Int)] w fun e w' => e = .returned (.tuple #[]) ∧ RIx w' F g gs gw kd sz mx (ck + 1) ks (wn.set i (ck + 1)) ∧ Step w w' F F := by
  obtain ⟨c1, c2, g0, g1, g2, g3, g4, g5, gf, hc1, hc2⟩ := h.cells
  have f5 := gf 5
  have hclk := h.clk
  have hl := h.len
  have hm : (wn.map (Value.int .i64)).length = ks.length := by rw [List.length_map, h.wlen]
  have t0 := h.wrow.cell i (by omega)
  have t1 := h.wrow.frozen i
  have hne : gw ≠ g := h.ne.2.1.symm
  have hne2 := hne.symm
  have h1 := Lib.hid (h.clock (ck + 1) (by omega))
  have h2 := Lib.hid (h1.out.time i hi (ck + 1))
  have HS : Hid (Step w ((w.setCell ⟨g, 5, none⟩ (.int .i64 (ck + 1))).setCell ⟨gw, i, none⟩ (.int .i64 (ck + 1))) F F) := Lib.hid (((Step.refl _ _).setCell (.inl h.inF.1) _).setCell (.inl h.inF.2.2) _)
  generalize hv : (wn.map (Value.int .i64))[i]'(by omega) = v at t0
  have HM := Lib.hid hm
  clear gf h g0 g1 g2 g3 hc1 hv hm
  go_enter Try.func80, Try.ntmps80
  go_wp2
  go_region
  go_wp2
  go_end0
  exact ⟨rfl, h2.out.keep (fun _ _ => rfl) (Nat.le_refl _), HS.out.drew⟩
theorem touch_ (h : RIx w F g gs gw kd sz mx ck ks wn) (hck : ck < 4611686018427387904) (r : Int) (hr : r = -1 ∨ ∃ i : Nat, r = (i : Int) ∧ i < ks.length) :
    Calls Try.prog 80 #[.pointer (some ⟨g, 0, none⟩), .int .i64 r] w fun e w' => e = .returned (.tuple #[]) ∧ RIx w' F g gs gw kd sz mx (ck + 1) ks (touched wn r (ck + 1)) ∧ Step w w' F F := by
  rcases hr with rfl | ⟨i, rfl, hi⟩
  · exact touch_neg h hck (-1) (by omega)
  · have e : touched wn (i : Int) (ck + 1) = wn.set i (ck + 1) := by unfold touched; rw [if_neg (by omega), Int.toNat_natCast]
    rw [e]
    exact touch_at h hck i hi
/-- Fits, but of prefixes. -/
theorem Fits_ (h : RIx w F g gs gw kd sz mx ck ks wn) (hkd : kd ≠ 3) (A : Option Addr) (l c : Nat) :
    Calls Try.prog 76 #[.pointer (some ⟨g, 0, none⟩), .slice A l c] w fun e w' => e = .returned (.bool (decide ((l : Int) = sz))) ∧ ∃ n, w' = w.drewN n := by
  obtain ⟨c1, c2, g0, g1, g2, g3, g4, g5, gf, hc1, hc2⟩ := h.cells
  have b0 : (kd != 3) = true := by simpa using hkd
  clear gf h g2 g3 g4 g5 hc1 hc2
  by_cases hl : (l : Int) = sz
  · have b1 : ((l : Int) == sz) = true := by simpa using hl
    have hd : decide ((l : Int) = sz) = true := decide_eq_true hl
    rw [hd]
    clear hl hd
    go_enter Try.func76, Try.ntmps76
    go_wp2
    go_quiet (fail)
    go_wp2
    go_ret
    exact ⟨rfl, ⟨_, rfl⟩⟩
  · have b1 : ((l : Int) == sz) = false := by simpa using hl
    have hd : decide ((l : Int) = sz) = false := decide_eq_false hl
    rw [hd]
    clear hl hd
    go_enter Try.func76, Try.ntmps76
    go_wp2
    go_quiet (fail)
    go_wp2
    go_ret
    exact ⟨rfl, ⟨_, rfl⟩⟩
end
/-- A row of bytes reads as a list. -/
theorem rowC {w : World} {b : Nat} {l : List Int} (h : Row w b 5 (l.map (Value.int .u8))) (hl : l.length ≤ 9223372036854775807) : Kd.C (Kd.int .u8) w (some ⟨b, 0, none⟩) l.length l := by
  refine Kd.C_of_reads (d := (0 : Int)) (h1 := fun _ => rfl) ⟨rfl, hl, fun _ => ⟨_, rfl, fun j hj => ?_⟩⟩
  rw [add_plain, h.cell j (by simpa using hj), List.getElem_map, List.getD_eq_getElem?_getD, List.getElem?_eq_getElem hj]
  rfl
theorem map_inj : ∀ (a b : List Int), (∀ x ∈ a, 0 ≤ x ∧ x ≤ 255) → (∀ x ∈ b, 0 ≤ x ∧ x ≤ 255) → (a.map fun n => UInt8.ofNat n.toNat) = (b.map fun n => UInt8.ofNat n.toNat) → a = b := by
  intro a
  induction a with
  | nil => intro b _ _ h; cases b with
    | nil => rfl
    | cons y b => simp at h
  | cons x a ih =>
    intro b ha hb h
    cases b with
    | nil => simp at h
    | cons y b =>
      rw [List.map_cons, List.map_cons] at h
      injection h with h1 h2
      have hx := ha x (by simp)
      have hy := hb y (by simp)
      have h3 : x.toNat = y.toNat := by
        have := congrArg UInt8.toNat h1
        rw [UInt8.toNat_ofNat', UInt8.toNat_ofNat'] at this
        omega
      rw [show x = y by omega, ih b (fun z hz => ha z (by simp [hz])) (fun z hz => hb z (by simp [hz])) h2]
theorem str_inj {a b : List Int} (ha : ∀ x ∈ a, 0 ≤ x ∧ x ≤ 255) (hb : ∀ x ∈ b, 0 ≤ x ∧ x ≤ 255) (h : (strOfNums a).toList = (strOfNums b).toList) : a = b := by
  rw [ByteArray.toList_eq, ByteArray.toList_eq] at h
  exact map_inj a b ha hb (by simpa [strOfNums] using h)
/-- The first slot from i on that holds just this key. -/
def sameAt (l : List Int) : List (Option (List Int)) → Nat → Int
  | [], _ => -1
  | k :: t, i => if k = some l then (i : Int) else sameAt l t (i + 1)
theorem same_none {l : List Int} {ks : List (Option (List Int))} {i : Nat} (h : ks[i]? ≠ some (some l)) (hi : i < ks.length) : sameAt l (ks.drop i) i = sameAt l (ks.drop (i + 1)) (i + 1) := by
  rw [List.drop_eq_getElem_cons hi, sameAt, if_neg (fun e => h (by rw [List.getElem?_eq_getElem hi, e]))]
theorem same_hit {l : List Int} {ks : List (Option (List Int))} {i : Nat} (h : ks[i]? = some (some l)) : sameAt l (ks.drop i) i = (i : Int) := by
  obtain ⟨hi, e⟩ := List.getElem?_eq_some_iff.1 h
  rw [List.drop_eq_getElem_cons hi, sameAt, if_pos e]
section
variable {w : World} {F : Nat → Prop} {g gs gw : Nat} {kd sz mx ck : Int} {ks : List (Option (List Int))} {wn : List Int}
theorem Same_ (h : RIx w F g gs gw kd sz mx ck ks wn) (hkd : kd ≠ 3) (A : Option Addr) (c : Nat) (l : List Int) (hC : Kd.C (Kd.int .u8) w A l.length l) (hl : l.length ≤ c) (hlb : ∀ x ∈ l, 0 ≤ x ∧ x ≤ 255) :
    Calls Try.prog 77 #[.pointer (some ⟨g, 0, none⟩), .slice A l.length c] w fun e w' => e = .returned (.int .i64 (sameAt l ks 0)) ∧ w = w' := by
  obtain ⟨c1, c2, g0, g1, g2, g3, g4, g5, gf, hc1, hc2⟩ := h.cells
  have b0 : (kd == 3) = false := by simpa using hkd
  have hlen := h.len
  have hkb : ∀ l', some l' ∈ ks → ∀ x ∈ l', 0 ≤ x ∧ x ≤ 255 := fun l' hl' => (h.kb l' hl').2
  have hkl : ∀ l', some l' ∈ ks → l'.length ≤ 16 := fun l' hl' => by have := (h.kb l' hl').1; have := h.szs; omega
  have HKL := Lib.hid hkl
  obtain ⟨vs, hv, hr, hkv⟩ := h.row
  have HV := Lib.hid hv; have HR := Lib.hid hr; have HKV := Lib.hid hkv
  have hcv := Kd.C_string (P := Try.prog) (A := A) (c := c) Try.underlying32 Try.underlying5 Try.underlying9 hC
  have HC := Lib.hid hC; have HLB := Lib.hid hlb; have HKB := Lib.hid hkb
  clear gf h g1 g2 g4 g5 hc1 hc2 hv hr hkv hC hlb hkb hkl
  go_enter Try.func77, Try.ntmps77
  go_wp2
  go_loop [19] (fun i => ∃ k : Nat, k ≤ ks.length ∧ i = .int .i64 (k : Int) ∧ Hid (sameAt l ks 0 = sameAt l (ks.drop k) k)) (fun i => ks.length - (intOf i).toNat)
  case atStart => exact ⟨0, Nat.zero_le _, rfl, Lib.hid rfl⟩
  case round =>
    obtain ⟨k, hk, rfl, HS⟩ := hrel
    by_cases hlt : k < ks.length
    · have hcell := HR.out.cell k (by rw [HV.out]; exact hlt)
      generalize hvk : vs[k]'(by rw [HV.out]; exact hlt) = v at hcell
      have hvs : vs[k]? = some v := by rw [List.getElem?_eq_getElem (by rw [HV.out]; exact hlt), hvk]
      cases hkk : ks[k]'hlt with
      | none =>
        have hks : ks[k]? = some none := by rw [List.getElem?_eq_getElem hlt, hkk]
        obtain rfl : v = .slice none 0 0 := HKV.out k v none hvs hks
        have hq := fun W => run_neq_slice_nil_any (P := Try.prog) W 32 5 none 0 0 0 0 Try.underlying32
        have HS2 := Lib.hid (HS.out.trans (same_none (by rw [hks]; simp) hlt))
        clear hvk hvs hkk hks HS
        go_wp2
        go_round
        case rel => exact ⟨k + 1, by omega, by go_num, HS2⟩
        case measure => simp [intOf]; omega
      | some l' =>
        have hks : ks[k]? = some (some l') := by rw [List.getElem?_eq_getElem hlt, hkk]
        obtain ⟨b, cb, rfl, hb1, hbF, hrow⟩ := HKV.out k v (some l') hvs hks
        have hl16 := HKL.out l' (List.mem_of_getElem? hks)
        have hq := fun W => run_neq_slice_nil_any (P := Try.prog) W 32 5 (some ⟨b, 0, none⟩) l'.length cb 0 0 Try.underlying32
        have hcv2 := Kd.C_string (P := Try.prog) (A := some ⟨b, 0, none⟩) (c := cb) Try.underlying32 Try.underlying5 Try.underlying9 (rowC hrow (by omega))
        clear hbF
        by_cases he : l' = l
        · have HS2 := Lib.hid (HS.out.trans (same_hit (by rw [hks, he])))
          subst he
          have hs1 : ((strOfNums l').toList == (strOfNums l').toList) = true := by simp
          clear hvk hvs hkk hks HS hrow
          go_wp2
          go_ret
          exact ⟨by rw [HS2.out]; rfl, rfl⟩
        · have HS2 := Lib.hid (HS.out.trans (same_none (by rw [hks]; intro e; injection e with e; injection e with e; exact he e) hlt))
          have hs1 : ((strOfNums l').toList == (strOfNums l).toList) = false := beq_eq_false_iff_ne.mpr fun e => he (str_inj (HKB.out l' (List.mem_of_getElem? hks)) HLB.out e)
          clear hvk hvs hkk hks HS hrow he
          go_wp2
          go_round
          case rel => exact ⟨k + 1, by omega, by go_num, HS2⟩
          case measure => simp [intOf]; omega
    · go_wp2
      go_ret
      exact ⟨by rw [HS.out, List.drop_eq_nil_of_le (by omega)]; rfl, rfl⟩
end
theorem same_bound (l : List Int) : ∀ (ks : List (Option (List Int))) (i : Nat), sameAt l ks i = -1 ∨ ∃ r : Nat, sameAt l ks i = (r : Int) ∧ i ≤ r ∧ r < i + ks.length := by
  intro ks
  induction ks with
  | nil => intro i; exact .inl rfl
  | cons k t ih =>
    intro i
    unfold sameAt
    by_cases h : k = some l
    · rw [if_pos h]; exact .inr ⟨i, rfl, Nat.le_refl _, by simp⟩
    · rw [if_neg h]
      rcases ih (i + 1) with h | ⟨r, h1, h2, h3⟩
      · exact .inl h
      · exact .inr ⟨r, h1, by omega, by simp; omega⟩
end Go.Proofs.Ytfbajampfiodeaa.Rx
