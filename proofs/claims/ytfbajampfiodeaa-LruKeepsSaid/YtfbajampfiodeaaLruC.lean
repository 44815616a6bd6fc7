/- lru.Index: Copy, walked by hand. -/
import Derived.Test.YtfbajampfiodeaaLruB
import Derived.Deep.RegionHeld3
namespace Go.Proofs.Ytfbajampfiodeaa.Lru
open Go.RowKit Go.Maps Go.Proofs.Ytfbajampfiodeaa.PArrayPlays Go.Proofs.YtfbajampfiodeaaW.PrintWords Go.Proofs.YtfbajampfiodeaaW.PrintLast Go.Proofs.YtfbajampfiodeaaW.PrintMore Go.Proofs.Ytfbajampfiodeaa.Mw Go.Proofs.Ytfbajampfiodeaa.Rx Go.Proofs.Ytfbajampfiodeaa.RxOps Go.Proofs.Ytfbajampfiodeaa.RxPut Go.Proofs.Ytfbajampfiodeaa.RxNew Go.Proofs.Ytfbajampfiodeaa.RxMore Go.Proofs.Ytfbajampfiodeaa.Hm Go.Proofs.Ytfbajampfiodeaa.Hash Go.Proofs.Ytfbajampfiodeaa.Fresh Go.Proofs.Ytfbajampfiodeaa.HashKeys
set_option linter.unusedVariables false
theorem row_of_owns {w : World} {B t n : Nat} {v : Value} {vs : List Value} (h : w.ownsRow B t 1 v n vs) (hn : v ≠ .slice none 0 0) : ∃ b c, v = .slice (some ⟨b, 0, none⟩) n c ∧ n ≤ c ∧ B ≤ b ∧ Row w b t vs := by
  rcases h.2 with ⟨e, _⟩ | ⟨b, cap, cur, e, hB, hb, h1, h2, h3, h4⟩
  · exact absurd e hn
  · rw [Nat.mul_one] at h4
    exact ⟨b, cap, e, h1, hB, cur.toList.drop n, by rw [hb, ← h4, List.take_append_drop]⟩
theorem clone_k {w W : World} {gk m c : Nat} {kv : List ByteArray} (h : Row w gk 9 (kv.map Value.string)) (hm : kv.length = m) (hm2 : m ≤ 64) (hb : Below w.heap.size w W) :
    Calls Try.prog 68 #[.slice (some ⟨gk, 0, none⟩) m c] W fun e w' => ∃ b c', e = .returned (.slice (some ⟨b, 0, none⟩) m c') ∧ m ≤ c' ∧ W.heap.size ≤ b ∧ Row w' b 9 (kv.map Value.string) ∧ Below W.heap.size W w' := by
  refine (Try.slices_Clone_string gk 0 m c kv W (by omega) (by omega) (fun j hj => ?_)).mono ?_
  · rw [Nat.zero_add, old hb (h.cell j (by rw [List.length_map]; exact hj)), List.getElem_map, List.getD_eq_getElem?_getD, List.getElem?_eq_getElem hj]
    rfl
  · rintro e w' ⟨v', rfl, ho, hn, hB⟩
    rw [List.take_of_length_le (by omega)] at ho
    obtain ⟨b, c', rfl, h1, h2, h3⟩ := row_of_owns ho hn
    exact ⟨b, c', rfl, h1, h2, h3, hB⟩
theorem clone_t {w W : World} {gt m c : Nat} {tk : List Bool} (h : Row w gt 4 (tk.map Value.bool)) (hm : tk.length = m) (hm2 : m ≤ 64) (hb : Below w.heap.size w W) :
    Calls Try.prog 69 #[.slice (some ⟨gt, 0, none⟩) m c] W fun e w' => ∃ b c', e = .returned (.slice (some ⟨b, 0, none⟩) m c') ∧ m ≤ c' ∧ W.heap.size ≤ b ∧ Row w' b 4 (tk.map Value.bool) ∧ Below W.heap.size W w' := by
  obtain ⟨i1, hi1, hz1, hs1, hb1⟩ := info_parts (P := Try.prog) (e := 4) (z := .bool false) (size := 1) (bytes := 1) (by kernel_rfl)
  refine (AnyE.slices_Clone Try.layCb i1 (.bool false) 1 1 hi1 hz1 hs1 hb1 rfl (by decide) Try.sizeOf4 gt 0 m c (tk.map Value.bool) W (by rw [List.length_map]; omega) (by unfold maxLen; omega) (by omega) (fun j u hj => ?_) (fun u hu => ?_)).mono ?_
  · obtain ⟨hj1, hj2⟩ := List.getElem?_eq_some_iff.1 hj
    rw [Nat.zero_add, old hb (h.cell j hj1), hj2]
  · obtain ⟨x, _, rfl⟩ := List.mem_map.1 hu
    rfl
  · rintro e w' ⟨v', rfl, ho, hn, hB⟩
    obtain ⟨b, c', rfl, h1, h2, h3⟩ := row_of_owns ho hn
    exact ⟨b, c', rfl, h1, h2, h3, hB⟩
theorem clone_o {w W : World} {F : Nat → Prop} {V : Value} {ord : List Int} (h : OrdAt w F V ord) (hl : ord.length ≤ 64) (hb : Below w.heap.size w W) :
    Calls Try.prog 70 #[V] W fun e w' => ∃ A n c, e = .returned (.slice A n c) ∧ w'.ownsRow W.heap.size 3 1 (.slice A n c) ord.length (ints ord) ∧ Below W.heap.size W w' := by
  obtain ⟨⟨hlen, hv⟩, hF⟩ := h
  rcases hv with ⟨rfl, h0⟩ | ⟨b, cap, cur, rfl, _, hbk, hc1, hc2, hc3, hc4⟩
  · obtain rfl : ord = [] := List.eq_nil_of_length_eq_zero h0
    refine (Try.slices_Clone_int_nil 0 0 W).mono ?_
    rintro e w' ⟨rfl, rfl⟩
    exact ⟨_, _, _, rfl, World.ownsRow_nil _ _ _ _, Below.refl _ _⟩
  · rw [Nat.mul_one] at hc3 hc4
    refine (Try.slices_Clone_int b 0 ord.length cap ord W (Nat.le_refl _) (by omega) (fun j hj => ?_)).mono ?_
    · rw [Nat.zero_add]
      refine old hb ?_
      rw [blk_cell hbk j, List.getD_eq_getElem?_getD, List.getElem?_eq_getElem hj]
      have : (cur.toList.take ord.length)[j]? = some (.int .i64 ord[j]) := by rw [hc4, List.getElem?_map, List.getElem?_eq_getElem hj]; rfl
      rw [List.getElem?_take_of_lt hj] at this
      simpa using this
    · rintro e w' ⟨v', rfl, ho, hn, hB⟩
      rw [List.take_of_length_le (Nat.le_refl _)] at ho
      obtain ⟨A, c, rfl⟩ := own_sl ⟨ho.1, ho.2.imp id fun ⟨g, cap, cur, e, hB, r⟩ => ⟨g, cap, cur, e, Nat.zero_le _, r⟩⟩
      exact ⟨_, _, _, rfl, ho, hB⟩
end Go.Proofs.Ytfbajampfiodeaa.Lru
namespace Go.Proofs.Ytfbajampfiodeaa.Lru
open Go.RowKit Go.Maps Go.Proofs.Ytfbajampfiodeaa.PArrayPlays Go.Proofs.YtfbajampfiodeaaW.PrintWords Go.Proofs.YtfbajampfiodeaaW.PrintLast Go.Proofs.YtfbajampfiodeaaW.PrintMore Go.Proofs.Ytfbajampfiodeaa.Mw Go.Proofs.Ytfbajampfiodeaa.Rx Go.Proofs.Ytfbajampfiodeaa.RxOps Go.Proofs.Ytfbajampfiodeaa.RxPut Go.Proofs.Ytfbajampfiodeaa.RxNew Go.Proofs.Ytfbajampfiodeaa.RxMore Go.Proofs.Ytfbajampfiodeaa.Hm Go.Proofs.Ytfbajampfiodeaa.Hash Go.Proofs.Ytfbajampfiodeaa.Fresh Go.Proofs.Ytfbajampfiodeaa.HashKeys
set_option linter.unusedVariables false
/-- What has been copied of the map: what is not left. -/
structure CopyIs (left : Lit → Bool) (ks ks' : List (Option (List Int))) : Prop where
  len : ks'.length = ks.length
  to_ : ∀ (i : Nat) (l : List Int), ks[i]? = some (some l) → (left (klit l) = true ∧ ks'[i]? = some none) ∨ ks'[i]? = some (some l)
  of_ : ∀ (i : Nat) (l : List Int), ks'[i]? = some (some l) → ks[i]? = some (some l) ∧ left (klit l) = false
theorem CopyIs.start {D : DataW Unit} {ks : List (Option (List Int))} (hm : MapIs D ks) : CopyIs (Maps.has D) ks (List.replicate ks.length none) :=
  ⟨by simp, fun i l h => .inl ⟨(hm.at_ i l h).1, by rw [List.getElem?_replicate, if_pos (List.getElem?_eq_some_iff.1 h).1]⟩, fun i l h => by
    rw [List.getElem?_replicate] at h
    split at h <;> cases h⟩
theorem CopyIs.done {left : Lit → Bool} {ks ks' : List (Option (List Int))} (h : CopyIs left ks ks') (h0 : ∀ kl, left kl = false) : ks' = ks := by
  refine List.ext_getElem? fun i => ?_
  by_cases hi : i < ks.length
  · have e := List.getElem?_eq_getElem hi
    have e' := List.getElem?_eq_getElem (show i < ks'.length by rw [h.len]; exact hi)
    cases hk : ks[i] with
    | some l =>
      rw [hk] at e
      rcases h.to_ i l e with ⟨h1, _⟩ | h1
      · rw [h0] at h1; cases h1
      · rw [h1, e]
    | none =>
      rw [hk] at e
      cases hk' : ks'[i]'(by rw [h.len]; exact hi) with
      | some l =>
        rw [hk'] at e'
        rw [(h.of_ i l e').1] at e
        cases e
      | none => rw [e', hk', e]
  · rw [List.getElem?_eq_none (by rw [h.len]; omega), List.getElem?_eq_none (by omega)]
theorem CopyIs.step {left : Lit → Bool} {ks ks' : List (Option (List Int))} {D : DataW Unit} (hb : ∀ l, some l ∈ ks → Bs l) (hm : MapIs D ks) (h : CopyIs left ks ks') {i : Nat} {l : List Int} (hi : ks[i]? = some (some l)) (hl : left (klit l) = true) :
    CopyIs (fun z => left z && !z.sameKey (klit l)) ks (ks'.set i (some l)) ∧ ks'[i]? = some none ∧ sameAt l ks' 0 < 0 := by
  have hil : i < ks.length := (List.getElem?_eq_some_iff.1 hi).1
  have hne : ∀ (j : Nat) (l' : List Int), ks[j]? = some (some l') → j ≠ i → klit l' ≠ klit l := fun j l' hj hji e => by
    have := klit_inj (hb l' (List.mem_of_getElem? hj)) (hb l (List.mem_of_getElem? hi)) e
    subst this
    exact hji (hm.inj hj hi)
  have h1 : ks'[i]? = some none := by
    rcases h.to_ i l hi with ⟨_, h1⟩ | h1
    · exact h1
    · rw [(h.of_ i l h1).2] at hl; cases hl
  refine ⟨⟨by rw [List.length_set]; exact h.len, fun j l' hj => ?_, fun j l' hj => ?_⟩, h1, ?_⟩
  · by_cases e : i = j
    · subst e
      rw [hi] at hj
      cases hj
      right
      rw [List.getElem?_set_self (by rw [h.len]; exact hil)]
    · rw [List.getElem?_set_ne e]
      rcases h.to_ j l' hj with ⟨h3, h4⟩ | h3
      · left
        refine ⟨?_, h4⟩
        show (left (klit l') && !(klit l').sameKey (klit l)) = true
        rw [h3, sameKey_ne (hne j l' hj (fun e2 => e e2.symm))]
        rfl
      · exact .inr h3
  · by_cases e : i = j
    · subst e
      rw [List.getElem?_set_self (by rw [h.len]; exact hil)] at hj
      cases hj
      refine ⟨hi, ?_⟩
      show (left (klit l) && !(klit l).sameKey (klit l)) = false
      have : (klit l).sameKey (klit l) = true := by unfold klit; simp [Lit.sameKey]
      rw [this]
      simp
    · rw [List.getElem?_set_ne e] at hj
      obtain ⟨h3, h4⟩ := h.of_ j l' hj
      refine ⟨h3, ?_⟩
      show (left (klit l') && !(klit l').sameKey (klit l)) = false
      rw [h4]
      rfl
  · rcases same_slot l ks' with e | ⟨j, e, hj⟩
    · omega
    · have hj2 := same_some e
      obtain ⟨h3, h4⟩ := h.of_ j l hj2
      rw [hl] at h4
      cases h4
def cntOf (ks : List (Option (List Int))) : Nat := (ks.filterMap id).length
theorem cnt_set {ks : List (Option (List Int))} {i : Nat} {l : List Int} (h : ks[i]? = some none) : cntOf (ks.set i (some l)) = cntOf ks + 1 := by
  unfold cntOf
  induction ks generalizing i with
  | nil => simp at h
  | cons k t ih =>
    cases i with
    | zero =>
      simp only [List.getElem?_cons_zero, Option.some.injEq] at h
      subst h
      simp
    | succ i =>
      simp only [List.getElem?_cons_succ] at h
      have := ih h
      cases k <;> simp_all
theorem cnt_le (ks : List (Option (List Int))) : cntOf ks ≤ ks.length := List.length_filterMap_le _ _
theorem cnt_none (m : Nat) : cntOf (List.replicate m none) = 0 := by
  unfold cntOf
  rw [List.length_eq_zero_iff, List.filterMap_eq_nil_iff]
  intro a ha
  rw [List.eq_of_mem_replicate ha]
  rfl
/-- What region 3 has laid. -/
structure Laid (w W : World) (g bm gk gt m : Nat) (sz : Int) (kv : List ByteArray) (tk : List Bool) (V : Value) (ord : List Int) : Prop where
  self : ∃ c1 c2 : Nat, W.heap[g]? = some (.cells #[.int .i64 sz, .map (some bm), .slice (some ⟨gk, 0, none⟩) m c1, .slice (some ⟨gt, 0, none⟩) m c2, V] 106 (0, 0)) ∧ m ≤ c1 ∧ m ≤ c2
  kys : Row W gk 9 (kv.map Value.string)
  tks : Row W gt 4 (tk.map Value.bool)
  ord : W.ownsRow w.heap.size 3 1 V ord.length (ints ord)
  low : w.heap.size ≤ g ∧ w.heap.size ≤ bm ∧ w.heap.size ≤ gk ∧ w.heap.size ≤ gt
  bel : Below w.heap.size w W
  mlt : bm < W.heap.size
theorem Laid.next {w W W2 : World} {g bm gk gt m : Nat} {sz : Int} {kv : List ByteArray} {tk : List Bool} {V : Value} {ord : List Int} (h : Laid w W g bm gk gt m sz kv tk V ord) {row : Option Nat} (hg : W.grownBy W2 row) (hr : ∀ b, row = some b → w.heap.size ≤ b ∧ ∀ cs t, W.heap[b]? ≠ some (.cells cs t (0, 0))) : Laid w W2 g bm gk gt m sz kv tk V ord := by
  have ne : ∀ {b t : Nat} {cs : Array Value}, W.heap[b]? = some (.cells cs t (0, 0)) → W2.heap[b]? = W.heap[b]? := fun {b t cs} hb => hg.block b (blk_lt hb) (fun e => (hr b e.symm).2 _ _ hb)
  obtain ⟨c1, c2, hs, hc⟩ := h.self
  obtain ⟨rk, hk⟩ := h.kys
  obtain ⟨rt, ht⟩ := h.tks
  refine ⟨⟨c1, c2, (ne hs).trans hs, hc⟩, ⟨rk, (ne hk).trans hk⟩, ⟨rt, (ne ht).trans ht⟩, own_move h.ord fun b hb => ?_, h.low, h.bel.grown hg h.bel.size (fun j hj => (hr j hj).1), Nat.lt_of_lt_of_le h.mlt hg.size⟩
  obtain ⟨cs, hc⟩ := own_typed h.ord b hb
  exact ne hc
theorem rowb {W W2 : World} {b t : Nat} {vs : List Value} (h : Row W b t vs) (hb : Below W.heap.size W W2) : Row W2 b t vs := h.keep (hb.block b h.lt)
theorem rowa {W : World} {b t : Nat} {vs : List Value} (h : Row W b t vs) (o : Obj) : Row (W.alloc o) b t vs := h.keep (Below.heap_alloc W o b h.lt)
theorem blk_keep {W W2 : World} {b : Nat} {o : Obj} (h : W.heap[b]? = some o) (hb : Below W.heap.size W W2) : W2.heap[b]? = some o := (hb.block b (blk_lt h)).trans h
theorem laid_of {w X : World} {bm gk gt m d1 d2 B : Nat} {sz : Int} {kv : List ByteArray} {tk : List Bool} {V : Value} {ord : List Int} (hb : Below w.heap.size w X) (hm : X.heap[bm]? = some (.map #[] 0)) (hk : Row X gk 9 (kv.map Value.string)) (ht : Row X gt 4 (tk.map Value.bool)) (ho : X.ownsRow B 3 1 V ord.length (ints ord)) (hB : w.heap.size ≤ B) (h1 : w.heap.size ≤ bm ∧ w.heap.size ≤ gk ∧ w.heap.size ≤ gt) (hd : m ≤ d1 ∧ m ≤ d2) :
    Laid w (X.alloc (.cells #[.int .i64 sz, .map (some bm), .slice (some ⟨gk, 0, none⟩) m d1, .slice (some ⟨gt, 0, none⟩) m d2, V] 106)) X.heap.size bm gk gt m sz kv tk V ord ∧ (X.alloc (.cells #[.int .i64 sz, .map (some bm), .slice (some ⟨gk, 0, none⟩) m d1, .slice (some ⟨gt, 0, none⟩) m d2, V] 106)).heap[bm]? = some (.map #[] 0) :=
  ⟨⟨⟨d1, d2, heap_alloc_new X _, hd⟩, rowa hk _, rowa ht _, own_move ⟨ho.1, ho.2.imp id fun ⟨g, cap, cur, e, h0, r⟩ => ⟨g, cap, cur, e, Nat.le_trans hB h0, r⟩⟩ fun b hbk => Below.heap_alloc X _ b (own_lt ho b hbk), ⟨hb.size, h1⟩, below_alloc hb _, by have := blk_lt hm; simp; omega⟩, blk_alloc hm _⟩
section
variable {w w' : World} {F F' : Nat → Prop} {g bm gk gt ct : Nat} {sz : Int} {ks : List (Option (List Int))} {tk : List Bool} {V : Value} {ord : List Int}
theorem Laid.fin {W : World} {g' bm' gk' gt' : Nat} {V' : Value} {kv : List ByteArray} (h : LIx w F g bm gk gt ct sz ks tk V ord) (hkv : kv.length = ks.length ∧ ∀ (i : Nat) (l : List Int), ks[i]? = some (some l) → kv[i]? = some (strOfNums l)) (hL : Laid w W g' bm' gk' gt' ks.length sz kv tk V' ord) {n : Nat} {D : DataW Unit} (hD : W.ownsMap Try.prog 9 (plainElem Try.prog 3) bm' n D) (hm : MapIs D ks) :
    ∃ F', LIx W F' g' bm' gk' gt' n sz ks tk V' ord ∧ ∀ b, F' b → w.heap.size ≤ b := by
  obtain ⟨c1, c2, hs, hc⟩ := hL.self
  refine ⟨fun b => b = g' ∨ b = bm' ∨ b = gk' ∨ b = gt' ∨ V'.ownBlock = some b, ⟨⟨c1, c2, hs, hc⟩, ⟨D, hD, hm⟩, ⟨kv, hL.kys, hkv.1, hkv.2⟩, ⟨hL.tks, h.taken.2⟩, ⟨⟨hL.ord.1, hL.ord.2.imp id fun ⟨g, cap, cur, e, hB, r⟩ => ⟨g, cap, cur, e, Nat.zero_le _, r⟩⟩, fun b hb => .inr (.inr (.inr (.inr hb)))⟩, ⟨.inl rfl, .inr (.inl rfl), .inr (.inr (.inl rfl)), .inr (.inr (.inr (.inl rfl)))⟩, ?_, h.ok⟩, ?_⟩
  · rintro b (rfl | rfl | rfl | rfl | hb)
    · exact blk_lt hs
    · exact hL.mlt
    · exact hL.kys.lt
    · exact hL.tks.lt
    · exact own_lt hL.ord b hb
  · rintro b (rfl | rfl | rfl | rfl | hb)
    · exact hL.low.1
    · exact hL.low.2.1
    · exact hL.low.2.2.1
    · exact hL.low.2.2.2
    · exact own_base hL.ord b hb
end
end Go.Proofs.Ytfbajampfiodeaa.Lru
namespace Go.Proofs.Ytfbajampfiodeaa.Lru
open Go.RowKit Go.Maps Go.Proofs.Ytfbajampfiodeaa.PArrayPlays Go.Proofs.YtfbajampfiodeaaW.PrintWords Go.Proofs.YtfbajampfiodeaaW.PrintLast Go.Proofs.YtfbajampfiodeaaW.PrintMore Go.Proofs.Ytfbajampfiodeaa.Mw Go.Proofs.Ytfbajampfiodeaa.Rx Go.Proofs.Ytfbajampfiodeaa.RxOps Go.Proofs.Ytfbajampfiodeaa.RxPut Go.Proofs.Ytfbajampfiodeaa.RxNew Go.Proofs.Ytfbajampfiodeaa.RxMore Go.Proofs.Ytfbajampfiodeaa.Hm Go.Proofs.Ytfbajampfiodeaa.Hash Go.Proofs.Ytfbajampfiodeaa.Fresh Go.Proofs.Ytfbajampfiodeaa.HashKeys
set_option linter.unusedVariables false
section
variable {w w' : World} {F F' : Nat → Prop} {g bm gk gt ct : Nat} {sz : Int} {ks : List (Option (List Int))} {tk : List Bool} {V : Value} {ord : List Int}
set_option maxRecDepth 100000 in
set_option maxHeartbeats 8000000 in
theorem Copy_ (h : LIx w F g bm gk gt ct sz ks tk V ord) (hol : ord.length ≤ 64) :
    Calls Try.prog 46 #[.pointer (some ⟨g, 0, none⟩)] w fun e w' => ∃ F' g' bm' gk' gt' V', e = .returned (.pointer (some ⟨g', 0, none⟩)) ∧ LIx w' F' g' bm' gk' gt' 64 sz ks tk V' ord ∧ (∀ b, F' b → w.heap.size ≤ b) ∧ Below w.heap.size w w' := by
  obtain ⟨m, hmk⟩ : ∃ m, m = ks.length := ⟨_, rfl⟩
  obtain ⟨c1, c2, g0, g1, g2, g3, g4, f4, hc1, hc2⟩ := h.cells
  rw [← hmk] at g2 g3 hc1 hc2
  obtain ⟨kv, hk1, hk2, hk3⟩ := h.kys
  obtain ⟨D, hD, hm⟩ := h.map
  have HD := Lib.hid hD; have HMI := Lib.hid hm
  have HI := Lib.hid h; have HMK := Lib.hid hmk
  have HK1 := Lib.hid hk1; have HK2 := Lib.hid (hk2.trans hmk.symm); have HK3 := Lib.hid hk3
  have HT1 := Lib.hid h.taken.1; have HT2 := Lib.hid (h.taken.2.trans hmk.symm); have HO := Lib.hid h.ord
  have HM := Lib.hid (show m ≤ 64 by have := h.ok.len; omega)
  have HOL := Lib.hid hol
  have hmm := @run_makeMap Try.prog
  have HKEEP : Hid (∀ W, Below w.heap.size w W → W.cell? ⟨g, 0, none⟩ = some (.int .i64 sz) ∧ W.cell? ⟨g, 2, none⟩ = some (.slice (some ⟨gk, 0, none⟩) m c1) ∧ W.cell? ⟨g, 3, none⟩ = some (.slice (some ⟨gt, 0, none⟩) m c2) ∧ W.cell? ⟨g, 4, none⟩ = some V) := Lib.hid fun W hb => ⟨old hb g0, old hb g2, old hb g3, old hb g4⟩
  clear hD hm h hmk f4 hk1 hk2 hk3 hc1 hc2 hol
  go_enter Try.func46, Try.ntmps46
  go_wp2
  go_region_held3 (fun w' => w'.cell? ⟨g, 0, none⟩ = some (.int .i64 sz) ∧ w'.cell? ⟨g, 2, none⟩ = some (.slice (some ⟨gk, 0, none⟩) m c1) ∧ w'.cell? ⟨g, 3, none⟩ = some (.slice (some ⟨gt, 0, none⟩) m c2) ∧ w'.cell? ⟨g, 4, none⟩ = some V) (first | exact HKEEP.out _ (below_alloc (below_alloc HB3.out _) _) | exact HKEEP.out _ (below_alloc HB3.out _) | exact HKEEP.out _ (HB3.out) | exact HKEEP.out _ (below_alloc (below_alloc HB2.out _) _) | exact HKEEP.out _ (below_alloc HB2.out _) | exact HKEEP.out _ (HB2.out) | exact HKEEP.out _ (below_alloc (below_alloc HB1.out _) _) | exact HKEEP.out _ (below_alloc HB1.out _) | exact HKEEP.out _ (HB1.out) | exact HKEEP.out _ (below_drew (below_alloc (Below.refl _ _) _)) | exact HKEEP.out _ (below_alloc (below_drew (Below.refl _ _)) _) | exact HKEEP.out _ (below_alloc (Below.refl _ _) _) | exact HKEEP.out _ (below_drew (Below.refl _ _)) | exact HKEEP.out _ (Below.refl _ _)) (first
    | (go_at_call 68
       refine (clone_k HK1.out HK2.out HM.out ?hb).mono ?_
       (case hb => first | exact below_drew (Below.refl _ _) | exact below_alloc (below_drew (Below.refl _ _)) _ | exact Below.refl _ _ | exact below_alloc (Below.refl _ _) _)
       rintro e w1 ⟨b1, d1, rfl, p1, p2, p3, p4⟩
       have HB1 : Hid (Below w.heap.size w w1) := Lib.hid (by first
         | exact Below.trans (below_drew (Below.refl w.heap.size w)) p4
         | exact Below.trans (Below.refl w.heap.size w) p4
         | exact Below.trans (below_drew (below_alloc (Below.refl w.heap.size w) _)) (p4.mono (below_drew (below_alloc (Below.refl w.heap.size w) (Obj.map #[] 0))).size)
         | exact Below.trans (below_alloc (Below.refl w.heap.size w) _) (p4.mono (below_alloc (Below.refl w.heap.size w) (Obj.map #[] 0)).size))
       have HP1 := Lib.hid (And.intro p1 (And.intro p2 p3))
       have HQ1 := Lib.hid p4
       clear p1 p2 p3 p4)
    | (go_at_call 69
       refine (clone_t HT1.out HT2.out HM.out ?hb).mono ?_
       (case hb => first | exact HB1.out | exact below_alloc HB1.out _)
       rintro e w2 ⟨b2, d2, rfl, p1, p2, p3, p4⟩
       have HB2 := Lib.hid (show Below w.heap.size w w2 by first | exact (HB1.out).trans (p4.mono (HB1.out).size) | exact (below_alloc HB1.out _).trans (p4.mono (below_alloc HB1.out _).size))
       have HP2 := Lib.hid (And.intro p1 (And.intro p2 p3))
       have HQ2 := Lib.hid p4
       clear p1 p2 p3 p4)
    | (go_at_call 70
       refine (clone_o HO.out HOL.out ?hb).mono ?_
       (case hb => first | exact HB2.out | exact below_alloc HB2.out _)
       rintro e w3 ⟨A3, n3, d3, rfl, p1, p4⟩
       have HB3 := Lib.hid (show Below w.heap.size w w3 by first | exact (HB2.out).trans (p4.mono (HB2.out).size) | exact (below_alloc HB2.out _).trans (p4.mono (below_alloc HB2.out _).size))
       have HP3 := Lib.hid p1
       have HQ3 := Lib.hid p4
       clear p1 p4)
    | fail)
  all_goals
    have HR1 : Hid (Row w3 b1 9 (kv.map Value.string)) := Lib.hid (by first
      | exact rowb (rowb HP1.out.2.2 HQ2.out) HQ3.out
      | exact rowb (rowb (rowa HP1.out.2.2 _) HQ2.out) HQ3.out
      | exact rowb (rowa (rowb HP1.out.2.2 HQ2.out) _) HQ3.out)
    have HR2 : Hid (Row w3 b2 4 (tk.map Value.bool)) := Lib.hid (by first
      | exact rowb HP2.out.2.2 HQ3.out
      | exact rowb (rowa HP2.out.2.2 _) HQ3.out)
    have HS12 : Hid (w.heap.size ≤ w1.heap.size ∧ w1.heap.size ≤ w2.heap.size ∧ w2.heap.size ≤ w3.heap.size) := Lib.hid ⟨HB1.out.size, by first | exact HQ2.out.size | exact Nat.le_trans (by simp) HQ2.out.size, by first | exact HQ3.out.size | exact Nat.le_trans (by simp) HQ3.out.size⟩
    have HLOW : Hid (w.heap.size ≤ b1 ∧ w.heap.size ≤ b2) := Lib.hid ⟨by first | exact HP1.out.2.1 | exact Nat.le_trans (by simp) HP1.out.2.1, by first | exact Nat.le_trans HB1.out.size HP2.out.2.1 | exact Nat.le_trans HB1.out.size (Nat.le_trans (by simp) HP2.out.2.1)⟩
  · have HL := Lib.hid (laid_of (w := w) (X := w3) (sz := sz) (d1 := d1) (d2 := d2) HB3.out (blk_keep (blk_keep (blk_keep (show ((w.alloc (Obj.map #[] 0)).drew).heap[w.heap.size]? = _ from heap_alloc_new w _) HQ1.out) HQ2.out) HQ3.out) HR1.out HR2.out HP3.out (by have := HB1.out.size; have := HB2.out.size; have := HB3.out.size; first | exact HB2.out.size | exact Nat.le_trans HB2.out.size (by simp)) ⟨by have := HS12.out; omega, HLOW.out⟩ ⟨HP1.out.1, HP2.out.1⟩)
    have HDX := Lib.hid (owns_keep HD.out (HL.out.1.bel.block bm HD.out.lt))
    clear HR1 HR2 HP1 HP2 HP3 HQ1 HQ2 HQ3 HB1 HB2 HB3 HKEEP hmm
    have q0 := (fun {cs t} (h : _ = some (Obj.cells cs t (0, 0))) => (blk_cell h 1)) HL.out.1.self.choose_spec.choose_spec.1
    have q1 := old HL.out.1.bel g1
    go_wp2_with (first
      | (at_range; refine wpList_range_own _ rfl _ 99 rfl 9 3 law Try.underlying99 _ bm ct _ rfl HDX.out ?_; intro w0 hrg0 hg0 hs0)
      | fail)
    go_frame
    have e1 : ∀ o, (w3.alloc o).heap.size = w3.heap.size + 1 := fun o => by simp
    simp only [e1] at hrg0 hs0 ⊢
    have HS0 : Hid (∃ left cnt ks' n' D', w0.ranges Try.prog 9 (plainElem Try.prog 3) bm (w3.heap.size + 1) ct D left cnt ∧ Laid w w0 (w3.heap.size) (w.heap.size) b1 b2 m sz kv tk (.slice A3 n3 d3) ord ∧ w0.ownsMap Try.prog 9 (plainElem Try.prog 3) (w.heap.size) n' D' ∧ MapIs D' ks' ∧ CopyIs left ks ks' ∧ n' = cntOf ks') :=
      Lib.hid ⟨_, _, List.replicate ks.length none, 0, _, hrg0, HL.out.1.next hg0 (fun b hb => by cases hb), made_map ((hg0.block (w.heap.size) HL.out.1.mlt (by simp)).trans HL.out.2), MapIs.empty _, CopyIs.start HMI.out, (cnt_none _).symm⟩
    clear hrg0 hg0 hs0 e1 HL HDX q0 q1
    go_loopw [4] (fun _ wr => Hid (∃ left cnt ks' n' D', wr.ranges Try.prog 9 (plainElem Try.prog 3) bm (w3.heap.size + 1) ct D left cnt ∧ Laid w wr (w3.heap.size) (w.heap.size) b1 b2 m sz kv tk (.slice A3 n3 d3) ord ∧ wr.ownsMap Try.prog 9 (plainElem Try.prog 3) (w.heap.size) n' D' ∧ MapIs D' ks' ∧ CopyIs left ks ks' ∧ n' = cntOf ks')) (fun _ wr => wr.rangeLeft bm (w3.heap.size + 1))
    case atStart => exact HS0
    case round =>
      clear HS0
      obtain ⟨left, cnt, ks', n', D', hrg, hL, hown, hmi, hcp, hn⟩ := hrel.out
      have HRG := Lib.hid hrg; have HLR := Lib.hid hL; have HOW := Lib.hid hown; have HMJ := Lib.hid hmi; have HCP := Lib.hid hcp
      have HN := Lib.hid (show n' = cntOf ks' ∧ n' ≤ 64 from ⟨hn, by have := cnt_le ks'; have := hcp.len; have := HM.out; have := HMK.out; omega⟩)
      clear hL hown hmi hcp hn hrel
      go_wp2_with (first
        | (at_next; refine wpList_next_ranges _ rfl _ rfl 9 law (plainElem Try.prog 3) Value.string (Value.int .i64) (fun key kl hk => by obtain ⟨s, e, _⟩ := Go.WideMaps.string_of_keyOf Try.underlying9 hk; exact ⟨s, e⟩) (fun v y hv => by obtain ⟨c, e, _⟩ := plainElem_int_inv Try.underlying3 hv; exact ⟨c, e⟩) bm (w3.heap.size + 1) ct D left cnt rfl hrg ?_ ?_)
        | fail)
      · intro _ hl0
        have hm2 := HMJ.out
        rw [HCP.out.done hl0] at hm2
        have hLm := HLR.out
        rw [HMK.out] at hLm
        obtain ⟨F2, hF, hlow⟩ := hLm.fin HI.out ⟨HK2.out.trans HMK.out, HK3.out⟩ (HOW.out.mono HN.out.2) hm2
        have HF := Lib.hid hF; have HFL := Lib.hid hlow
        clear hrg hm2 hLm hF hlow hl0
        go_wp2
        go_ret
        exact ⟨F2, _, _, _, _, _, rfl, HF.out, HFL.out, HLR.out.bel⟩
      · intro x c kl y1 y2 wn cnt1 hkey hlk hRv hat hrg1 hlt hg1 hs1 hen
        obtain ⟨i, l, hi, rfl, rfl, rfl⟩ := entry_is (y := (y1, y2)) HMI.out hkey hRv hat
        have hsz := HS12.out
        have hL1 := HLR.out.next hg1 (fun b hb => by cases hb; exact ⟨by omega, fun cs t h => (ranges_ne HRG.out h).1 rfl⟩)
        have hown1 := HOW.out.kept hg1 (fun e => by have := Option.some.inj e; omega)
        obtain ⟨hcp1, hfree, hmiss⟩ := CopyIs.step (fun l hl => (HI.out.ok.kb l hl).2) HMI.out HCP.out hi hlk
        have hil : i < ks'.length := (List.getElem?_eq_some_iff.1 hfree).1
        have hmj := HMJ.out.put hown1.isMap (fun l hl => by obtain ⟨j, hj⟩ := List.mem_iff_getElem?.1 hl; exact (HI.out.ok.kb l (List.mem_of_getElem? (HCP.out.of_ j l hj).1)).2) ((HI.out.ok.kb l (List.mem_of_getElem? hi)).2) hmiss hil hfree
        have hval := plainElem_int (H := Unit) (a := (i : Int)) Try.underlying3 (Go.WalkArith.wf_i64 (by have := HCP.out.len; have := HM.out; have := HMK.out; omega))
        obtain ⟨c1', c2', hself, _⟩ := hL1.self
        have q1 : wn.cell? ⟨w3.heap.size, 1, none⟩ = some (.map (some (w.heap.size))) := (blk_cell hself 1).trans rfl
        have hne : bm < w.heap.size := HD.out.lt
        have hn64 := HN.out.2
        have HRG1 := Lib.hid hrg1; have HL1 := Lib.hid hL1; have HCP1 := Lib.hid hcp1; have HMJ1 := Lib.hid hmj; have HLT := Lib.hid hlt; have HFR := Lib.hid hfree; have HOW1 := Lib.hid hown1
        have HNE := Lib.hid hne; have HSZ := Lib.hid hsz
        clear hrg1 hL1 hcp1 hmj hlt hfree hmiss hil hself hlk hRv hat hg1 hs1 hrg hi hne hsz
        go_wp2_with (first
          | (at_mapUpdate; refine wpList_mapUpdate_own _ rfl _ _ _ 99 rfl 9 3 law Try.underlying99 (plainElem Try.prog 3) (w.heap.size) n' D' rfl HOW1.out (by unfold maxLen; omega) _ _ (klit l) rfl rfl hkey _ [] hval ?_; intro w8 hown8 hg8)
          | fail)
        have HALL := Lib.hid (And.intro (HRG1.out.kept hg8 (fun e => by have := Option.some.inj e; have := HNE.out; have := HSZ.out; omega) (fun e => by have := Option.some.inj e; have := HSZ.out; omega)) (And.intro (HL1.out.next hg8 (fun b hb => by cases hb; exact ⟨by have := HSZ.out; omega, fun cs t h => owns_ne HOW1.out h rfl⟩)) (And.intro hown8 (And.intro HMJ1.out (And.intro HCP1.out (show n' + 1 = cntOf (ks'.set i (some l)) by rw [cnt_set HFR.out, HN.out.1]))))))
        clear hown8 hg8 hen hkey
        go_roundw
        case rel => exact ⟨_, _, _, _, _, _, _, _, _, _, _, _, _, Lib.hid ⟨_, cnt1, _, _, _, HALL.out⟩, rfl⟩
        case measure => rw [HALL.out.1.left_eq, HRG.out.left_eq]; exact HLT.out
  · have HL := Lib.hid (laid_of (w := w) (X := w3) (sz := sz) (d1 := d1) (d2 := d2) HB3.out (blk_keep (blk_keep (heap_alloc_new w1 _) HQ2.out) HQ3.out) HR1.out HR2.out HP3.out (by have := HB1.out.size; have := HB2.out.size; have := HB3.out.size; first | exact HB2.out.size | exact Nat.le_trans HB2.out.size (by simp)) ⟨by have := HS12.out; omega, HLOW.out⟩ ⟨HP1.out.1, HP2.out.1⟩)
    have HDX := Lib.hid (owns_keep HD.out (HL.out.1.bel.block bm HD.out.lt))
    clear HR1 HR2 HP1 HP2 HP3 HQ1 HQ2 HQ3 HB1 HB2 HB3 HKEEP hmm
    have q0 := (fun {cs t} (h : _ = some (Obj.cells cs t (0, 0))) => (blk_cell h 1)) HL.out.1.self.choose_spec.choose_spec.1
    have q1 := old HL.out.1.bel g1
    go_wp2_with (first
      | (at_range; refine wpList_range_own _ rfl _ 99 rfl 9 3 law Try.underlying99 _ bm ct _ rfl HDX.out ?_; intro w0 hrg0 hg0 hs0)
      | fail)
    go_frame
    have e1 : ∀ o, (w3.alloc o).heap.size = w3.heap.size + 1 := fun o => by simp
    simp only [e1] at hrg0 hs0 ⊢
    have HS0 : Hid (∃ left cnt ks' n' D', w0.ranges Try.prog 9 (plainElem Try.prog 3) bm (w3.heap.size + 1) ct D left cnt ∧ Laid w w0 (w3.heap.size) (w1.heap.size) b1 b2 m sz kv tk (.slice A3 n3 d3) ord ∧ w0.ownsMap Try.prog 9 (plainElem Try.prog 3) (w1.heap.size) n' D' ∧ MapIs D' ks' ∧ CopyIs left ks ks' ∧ n' = cntOf ks') :=
      Lib.hid ⟨_, _, List.replicate ks.length none, 0, _, hrg0, HL.out.1.next hg0 (fun b hb => by cases hb), made_map ((hg0.block (w1.heap.size) HL.out.1.mlt (by simp)).trans HL.out.2), MapIs.empty _, CopyIs.start HMI.out, (cnt_none _).symm⟩
    clear hrg0 hg0 hs0 e1 HL HDX q0 q1
    go_loopw [4] (fun _ wr => Hid (∃ left cnt ks' n' D', wr.ranges Try.prog 9 (plainElem Try.prog 3) bm (w3.heap.size + 1) ct D left cnt ∧ Laid w wr (w3.heap.size) (w1.heap.size) b1 b2 m sz kv tk (.slice A3 n3 d3) ord ∧ wr.ownsMap Try.prog 9 (plainElem Try.prog 3) (w1.heap.size) n' D' ∧ MapIs D' ks' ∧ CopyIs left ks ks' ∧ n' = cntOf ks')) (fun _ wr => wr.rangeLeft bm (w3.heap.size + 1))
    case atStart => exact HS0
    case round =>
      clear HS0
      obtain ⟨left, cnt, ks', n', D', hrg, hL, hown, hmi, hcp, hn⟩ := hrel.out
      have HRG := Lib.hid hrg; have HLR := Lib.hid hL; have HOW := Lib.hid hown; have HMJ := Lib.hid hmi; have HCP := Lib.hid hcp
      have HN := Lib.hid (show n' = cntOf ks' ∧ n' ≤ 64 from ⟨hn, by have := cnt_le ks'; have := hcp.len; have := HM.out; have := HMK.out; omega⟩)
      clear hL hown hmi hcp hn hrel
      go_wp2_with (first
        | (at_next; refine wpList_next_ranges _ rfl _ rfl 9 law (plainElem Try.prog 3) Value.string (Value.int .i64) (fun key kl hk => by obtain ⟨s, e, _⟩ := Go.WideMaps.string_of_keyOf Try.underlying9 hk; exact ⟨s, e⟩) (fun v y hv => by obtain ⟨c, e, _⟩ := plainElem_int_inv Try.underlying3 hv; exact ⟨c, e⟩) bm (w3.heap.size + 1) ct D left cnt rfl hrg ?_ ?_)
        | fail)
      · intro _ hl0
        have hm2 := HMJ.out
        rw [HCP.out.done hl0] at hm2
        have hLm := HLR.out
        rw [HMK.out] at hLm
        obtain ⟨F2, hF, hlow⟩ := hLm.fin HI.out ⟨HK2.out.trans HMK.out, HK3.out⟩ (HOW.out.mono HN.out.2) hm2
        have HF := Lib.hid hF; have HFL := Lib.hid hlow
        clear hrg hm2 hLm hF hlow hl0
        go_wp2
        go_ret
        exact ⟨F2, _, _, _, _, _, rfl, HF.out, HFL.out, HLR.out.bel⟩
      · intro x c kl y1 y2 wn cnt1 hkey hlk hRv hat hrg1 hlt hg1 hs1 hen
        obtain ⟨i, l, hi, rfl, rfl, rfl⟩ := entry_is (y := (y1, y2)) HMI.out hkey hRv hat
        have hsz := HS12.out
        have hL1 := HLR.out.next hg1 (fun b hb => by cases hb; exact ⟨by omega, fun cs t h => (ranges_ne HRG.out h).1 rfl⟩)
        have hown1 := HOW.out.kept hg1 (fun e => by have := Option.some.inj e; omega)
        obtain ⟨hcp1, hfree, hmiss⟩ := CopyIs.step (fun l hl => (HI.out.ok.kb l hl).2) HMI.out HCP.out hi hlk
        have hil : i < ks'.length := (List.getElem?_eq_some_iff.1 hfree).1
        have hmj := HMJ.out.put hown1.isMap (fun l hl => by obtain ⟨j, hj⟩ := List.mem_iff_getElem?.1 hl; exact (HI.out.ok.kb l (List.mem_of_getElem? (HCP.out.of_ j l hj).1)).2) ((HI.out.ok.kb l (List.mem_of_getElem? hi)).2) hmiss hil hfree
        have hval := plainElem_int (H := Unit) (a := (i : Int)) Try.underlying3 (Go.WalkArith.wf_i64 (by have := HCP.out.len; have := HM.out; have := HMK.out; omega))
        obtain ⟨c1', c2', hself, _⟩ := hL1.self
        have q1 : wn.cell? ⟨w3.heap.size, 1, none⟩ = some (.map (some (w1.heap.size))) := (blk_cell hself 1).trans rfl
        have hne : bm < w.heap.size := HD.out.lt
        have hn64 := HN.out.2
        have HRG1 := Lib.hid hrg1; have HL1 := Lib.hid hL1; have HCP1 := Lib.hid hcp1; have HMJ1 := Lib.hid hmj; have HLT := Lib.hid hlt; have HFR := Lib.hid hfree; have HOW1 := Lib.hid hown1
        have HNE := Lib.hid hne; have HSZ := Lib.hid hsz
        clear hrg1 hL1 hcp1 hmj hlt hfree hmiss hil hself hlk hRv hat hg1 hs1 hrg hi hne hsz
        go_wp2_with (first
          | (at_mapUpdate; refine wpList_mapUpdate_own _ rfl _ _ _ 99 rfl 9 3 law Try.underlying99 (plainElem Try.prog 3) (w1.heap.size) n' D' rfl HOW1.out (by unfold maxLen; omega) _ _ (klit l) rfl rfl hkey _ [] hval ?_; intro w8 hown8 hg8)
          | fail)
        have HALL := Lib.hid (And.intro (HRG1.out.kept hg8 (fun e => by have := Option.some.inj e; have := HNE.out; have := HSZ.out; omega) (fun e => by have := Option.some.inj e; have := HSZ.out; omega)) (And.intro (HL1.out.next hg8 (fun b hb => by cases hb; exact ⟨by have := HSZ.out; omega, fun cs t h => owns_ne HOW1.out h rfl⟩)) (And.intro hown8 (And.intro HMJ1.out (And.intro HCP1.out (show n' + 1 = cntOf (ks'.set i (some l)) by rw [cnt_set HFR.out, HN.out.1]))))))
        clear hown8 hg8 hen hkey
        go_roundw
        case rel => exact ⟨_, _, _, _, _, _, _, _, _, _, _, _, _, Lib.hid ⟨_, cnt1, _, _, _, HALL.out⟩, rfl⟩
        case measure => rw [HALL.out.1.left_eq, HRG.out.left_eq]; exact HLT.out
  · have HL := Lib.hid (laid_of (w := w) (X := w3) (sz := sz) (d1 := d1) (d2 := d2) HB3.out (blk_keep (heap_alloc_new w2 _) HQ3.out) HR1.out HR2.out HP3.out (by have := HB1.out.size; have := HB2.out.size; have := HB3.out.size; first | exact HB2.out.size | exact Nat.le_trans HB2.out.size (by simp)) ⟨by have := HS12.out; omega, HLOW.out⟩ ⟨HP1.out.1, HP2.out.1⟩)
    have HDX := Lib.hid (owns_keep HD.out (HL.out.1.bel.block bm HD.out.lt))
    clear HR1 HR2 HP1 HP2 HP3 HQ1 HQ2 HQ3 HB1 HB2 HB3 HKEEP hmm
    have q0 := (fun {cs t} (h : _ = some (Obj.cells cs t (0, 0))) => (blk_cell h 1)) HL.out.1.self.choose_spec.choose_spec.1
    have q1 := old HL.out.1.bel g1
    go_wp2_with (first
      | (at_range; refine wpList_range_own _ rfl _ 99 rfl 9 3 law Try.underlying99 _ bm ct _ rfl HDX.out ?_; intro w0 hrg0 hg0 hs0)
      | fail)
    go_frame
    have e1 : ∀ o, (w3.alloc o).heap.size = w3.heap.size + 1 := fun o => by simp
    simp only [e1] at hrg0 hs0 ⊢
    have HS0 : Hid (∃ left cnt ks' n' D', w0.ranges Try.prog 9 (plainElem Try.prog 3) bm (w3.heap.size + 1) ct D left cnt ∧ Laid w w0 (w3.heap.size) (w2.heap.size) b1 b2 m sz kv tk (.slice A3 n3 d3) ord ∧ w0.ownsMap Try.prog 9 (plainElem Try.prog 3) (w2.heap.size) n' D' ∧ MapIs D' ks' ∧ CopyIs left ks ks' ∧ n' = cntOf ks') :=
      Lib.hid ⟨_, _, List.replicate ks.length none, 0, _, hrg0, HL.out.1.next hg0 (fun b hb => by cases hb), made_map ((hg0.block (w2.heap.size) HL.out.1.mlt (by simp)).trans HL.out.2), MapIs.empty _, CopyIs.start HMI.out, (cnt_none _).symm⟩
    clear hrg0 hg0 hs0 e1 HL HDX q0 q1
    go_loopw [4] (fun _ wr => Hid (∃ left cnt ks' n' D', wr.ranges Try.prog 9 (plainElem Try.prog 3) bm (w3.heap.size + 1) ct D left cnt ∧ Laid w wr (w3.heap.size) (w2.heap.size) b1 b2 m sz kv tk (.slice A3 n3 d3) ord ∧ wr.ownsMap Try.prog 9 (plainElem Try.prog 3) (w2.heap.size) n' D' ∧ MapIs D' ks' ∧ CopyIs left ks ks' ∧ n' = cntOf ks')) (fun _ wr => wr.rangeLeft bm (w3.heap.size + 1))
    case atStart => exact HS0
    case round =>
      clear HS0
      obtain ⟨left, cnt, ks', n', D', hrg, hL, hown, hmi, hcp, hn⟩ := hrel.out
      have HRG := Lib.hid hrg; have HLR := Lib.hid hL; have HOW := Lib.hid hown; have HMJ := Lib.hid hmi; have HCP := Lib.hid hcp
      have HN := Lib.hid (show n' = cntOf ks' ∧ n' ≤ 64 from ⟨hn, by have := cnt_le ks'; have := hcp.len; have := HM.out; have := HMK.out; omega⟩)
      clear hL hown hmi hcp hn hrel
      go_wp2_with (first
        | (at_next; refine wpList_next_ranges _ rfl _ rfl 9 law (plainElem Try.prog 3) Value.string (Value.int .i64) (fun key kl hk => by obtain ⟨s, e, _⟩ := Go.WideMaps.string_of_keyOf Try.underlying9 hk; exact ⟨s, e⟩) (fun v y hv => by obtain ⟨c, e, _⟩ := plainElem_int_inv Try.underlying3 hv; exact ⟨c, e⟩) bm (w3.heap.size + 1) ct D left cnt rfl hrg ?_ ?_)
        | fail)
      · intro _ hl0
        have hm2 := HMJ.out
        rw [HCP.out.done hl0] at hm2
        have hLm := HLR.out
        rw [HMK.out] at hLm
        obtain ⟨F2, hF, hlow⟩ := hLm.fin HI.out ⟨HK2.out.trans HMK.out, HK3.out⟩ (HOW.out.mono HN.out.2) hm2
        have HF := Lib.hid hF; have HFL := Lib.hid hlow
        clear hrg hm2 hLm hF hlow hl0
        go_wp2
        go_ret
        exact ⟨F2, _, _, _, _, _, rfl, HF.out, HFL.out, HLR.out.bel⟩
      · intro x c kl y1 y2 wn cnt1 hkey hlk hRv hat hrg1 hlt hg1 hs1 hen
        obtain ⟨i, l, hi, rfl, rfl, rfl⟩ := entry_is (y := (y1, y2)) HMI.out hkey hRv hat
        have hsz := HS12.out
        have hL1 := HLR.out.next hg1 (fun b hb => by cases hb; exact ⟨by omega, fun cs t h => (ranges_ne HRG.out h).1 rfl⟩)
        have hown1 := HOW.out.kept hg1 (fun e => by have := Option.some.inj e; omega)
        obtain ⟨hcp1, hfree, hmiss⟩ := CopyIs.step (fun l hl => (HI.out.ok.kb l hl).2) HMI.out HCP.out hi hlk
        have hil : i < ks'.length := (List.getElem?_eq_some_iff.1 hfree).1
        have hmj := HMJ.out.put hown1.isMap (fun l hl => by obtain ⟨j, hj⟩ := List.mem_iff_getElem?.1 hl; exact (HI.out.ok.kb l (List.mem_of_getElem? (HCP.out.of_ j l hj).1)).2) ((HI.out.ok.kb l (List.mem_of_getElem? hi)).2) hmiss hil hfree
        have hval := plainElem_int (H := Unit) (a := (i : Int)) Try.underlying3 (Go.WalkArith.wf_i64 (by have := HCP.out.len; have := HM.out; have := HMK.out; omega))
        obtain ⟨c1', c2', hself, _⟩ := hL1.self
        have q1 : wn.cell? ⟨w3.heap.size, 1, none⟩ = some (.map (some (w2.heap.size))) := (blk_cell hself 1).trans rfl
        have hne : bm < w.heap.size := HD.out.lt
        have hn64 := HN.out.2
        have HRG1 := Lib.hid hrg1; have HL1 := Lib.hid hL1; have HCP1 := Lib.hid hcp1; have HMJ1 := Lib.hid hmj; have HLT := Lib.hid hlt; have HFR := Lib.hid hfree; have HOW1 := Lib.hid hown1
        have HNE := Lib.hid hne; have HSZ := Lib.hid hsz
        clear hrg1 hL1 hcp1 hmj hlt hfree hmiss hil hself hlk hRv hat hg1 hs1 hrg hi hne hsz
        go_wp2_with (first
          | (at_mapUpdate; refine wpList_mapUpdate_own _ rfl _ _ _ 99 rfl 9 3 law Try.underlying99 (plainElem Try.prog 3) (w2.heap.size) n' D' rfl HOW1.out (by unfold maxLen; omega) _ _ (klit l) rfl rfl hkey _ [] hval ?_; intro w8 hown8 hg8)
          | fail)
        have HALL := Lib.hid (And.intro (HRG1.out.kept hg8 (fun e => by have := Option.some.inj e; have := HNE.out; have := HSZ.out; omega) (fun e => by have := Option.some.inj e; have := HSZ.out; omega)) (And.intro (HL1.out.next hg8 (fun b hb => by cases hb; exact ⟨by have := HSZ.out; omega, fun cs t h => owns_ne HOW1.out h rfl⟩)) (And.intro hown8 (And.intro HMJ1.out (And.intro HCP1.out (show n' + 1 = cntOf (ks'.set i (some l)) by rw [cnt_set HFR.out, HN.out.1]))))))
        clear hown8 hg8 hen hkey
        go_roundw
        case rel => exact ⟨_, _, _, _, _, _, _, _, _, _, _, _, _, Lib.hid ⟨_, cnt1, _, _, _, HALL.out⟩, rfl⟩
        case measure => rw [HALL.out.1.left_eq, HRG.out.left_eq]; exact HLT.out
  · have HL := Lib.hid (laid_of (w := w) (X := (w3.alloc (Obj.map #[] 0))) (sz := sz) (d1 := d1) (d2 := d2) (below_alloc HB3.out _) (heap_alloc_new w3 _) (rowa HR1.out _) (rowa HR2.out _) (own_move HP3.out fun b hb => Below.heap_alloc w3 (Obj.map #[] 0) b (own_lt HP3.out b hb)) (by have := HB1.out.size; have := HB2.out.size; have := HB3.out.size; first | exact HB2.out.size | exact Nat.le_trans HB2.out.size (by simp)) ⟨by have := HS12.out; omega, HLOW.out⟩ ⟨HP1.out.1, HP2.out.1⟩)
    rw [show (w3.alloc (Obj.map #[] 0)).heap.size = w3.heap.size + 1 by simp] at HL
    have HDX := Lib.hid (owns_keep HD.out (HL.out.1.bel.block bm HD.out.lt))
    clear HR1 HR2 HP1 HP2 HP3 HQ1 HQ2 HQ3 HB1 HB2 HB3 HKEEP hmm
    have q0 := (fun {cs t} (h : _ = some (Obj.cells cs t (0, 0))) => (blk_cell h 1)) HL.out.1.self.choose_spec.choose_spec.1
    have q1 := old HL.out.1.bel g1
    go_wp2_with (first
      | (at_range; refine wpList_range_own _ rfl _ 99 rfl 9 3 law Try.underlying99 _ bm ct _ rfl HDX.out ?_; intro w0 hrg0 hg0 hs0)
      | fail)
    go_frame
    have e1 : ∀ o o', ((w3.alloc o).alloc o').heap.size = w3.heap.size + 1 + 1 := fun o o' => by simp
    simp only [e1] at hrg0 hs0 ⊢
    have HS0 : Hid (∃ left cnt ks' n' D', w0.ranges Try.prog 9 (plainElem Try.prog 3) bm (w3.heap.size + 1 + 1) ct D left cnt ∧ Laid w w0 (w3.heap.size + 1) (w3.heap.size) b1 b2 m sz kv tk (.slice A3 n3 d3) ord ∧ w0.ownsMap Try.prog 9 (plainElem Try.prog 3) (w3.heap.size) n' D' ∧ MapIs D' ks' ∧ CopyIs left ks ks' ∧ n' = cntOf ks') :=
      Lib.hid ⟨_, _, List.replicate ks.length none, 0, _, hrg0, HL.out.1.next hg0 (fun b hb => by cases hb), made_map ((hg0.block (w3.heap.size) HL.out.1.mlt (by simp)).trans HL.out.2), MapIs.empty _, CopyIs.start HMI.out, (cnt_none _).symm⟩
    clear hrg0 hg0 hs0 e1 HL HDX q0 q1
    go_loopw [4] (fun _ wr => Hid (∃ left cnt ks' n' D', wr.ranges Try.prog 9 (plainElem Try.prog 3) bm (w3.heap.size + 1 + 1) ct D left cnt ∧ Laid w wr (w3.heap.size + 1) (w3.heap.size) b1 b2 m sz kv tk (.slice A3 n3 d3) ord ∧ wr.ownsMap Try.prog 9 (plainElem Try.prog 3) (w3.heap.size) n' D' ∧ MapIs D' ks' ∧ CopyIs left ks ks' ∧ n' = cntOf ks')) (fun _ wr => wr.rangeLeft bm (w3.heap.size + 1 + 1))
    case atStart => exact HS0
    case round =>
      clear HS0
      obtain ⟨left, cnt, ks', n', D', hrg, hL, hown, hmi, hcp, hn⟩ := hrel.out
      have HRG := Lib.hid hrg; have HLR := Lib.hid hL; have HOW := Lib.hid hown; have HMJ := Lib.hid hmi; have HCP := Lib.hid hcp
      have HN := Lib.hid (show n' = cntOf ks' ∧ n' ≤ 64 from ⟨hn, by have := cnt_le ks'; have := hcp.len; have := HM.out; have := HMK.out; omega⟩)
      clear hL hown hmi hcp hn hrel
      go_wp2_with (first
        | (at_next; refine wpList_next_ranges _ rfl _ rfl 9 law (plainElem Try.prog 3) Value.string (Value.int .i64) (fun key kl hk => by obtain ⟨s, e, _⟩ := Go.WideMaps.string_of_keyOf Try.underlying9 hk; exact ⟨s, e⟩) (fun v y hv => by obtain ⟨c, e, _⟩ := plainElem_int_inv Try.underlying3 hv; exact ⟨c, e⟩) bm (w3.heap.size + 1 + 1) ct D left cnt rfl hrg ?_ ?_)
        | fail)
      · intro _ hl0
        have hm2 := HMJ.out
        rw [HCP.out.done hl0] at hm2
        have hLm := HLR.out
        rw [HMK.out] at hLm
        obtain ⟨F2, hF, hlow⟩ := hLm.fin HI.out ⟨HK2.out.trans HMK.out, HK3.out⟩ (HOW.out.mono HN.out.2) hm2
        have HF := Lib.hid hF; have HFL := Lib.hid hlow
        clear hrg hm2 hLm hF hlow hl0
        go_wp2
        go_ret
        exact ⟨F2, _, _, _, _, _, rfl, HF.out, HFL.out, HLR.out.bel⟩
      · intro x c kl y1 y2 wn cnt1 hkey hlk hRv hat hrg1 hlt hg1 hs1 hen
        obtain ⟨i, l, hi, rfl, rfl, rfl⟩ := entry_is (y := (y1, y2)) HMI.out hkey hRv hat
        have hsz := HS12.out
        have hL1 := HLR.out.next hg1 (fun b hb => by cases hb; exact ⟨by omega, fun cs t h => (ranges_ne HRG.out h).1 rfl⟩)
        have hown1 := HOW.out.kept hg1 (fun e => by have := Option.some.inj e; omega)
        obtain ⟨hcp1, hfree, hmiss⟩ := CopyIs.step (fun l hl => (HI.out.ok.kb l hl).2) HMI.out HCP.out hi hlk
        have hil : i < ks'.length := (List.getElem?_eq_some_iff.1 hfree).1
        have hmj := HMJ.out.put hown1.isMap (fun l hl => by obtain ⟨j, hj⟩ := List.mem_iff_getElem?.1 hl; exact (HI.out.ok.kb l (List.mem_of_getElem? (HCP.out.of_ j l hj).1)).2) ((HI.out.ok.kb l (List.mem_of_getElem? hi)).2) hmiss hil hfree
        have hval := plainElem_int (H := Unit) (a := (i : Int)) Try.underlying3 (Go.WalkArith.wf_i64 (by have := HCP.out.len; have := HM.out; have := HMK.out; omega))
        obtain ⟨c1', c2', hself, _⟩ := hL1.self
        have q1 : wn.cell? ⟨w3.heap.size + 1, 1, none⟩ = some (.map (some (w3.heap.size))) := (blk_cell hself 1).trans rfl
        have hne : bm < w.heap.size := HD.out.lt
        have hn64 := HN.out.2
        have HRG1 := Lib.hid hrg1; have HL1 := Lib.hid hL1; have HCP1 := Lib.hid hcp1; have HMJ1 := Lib.hid hmj; have HLT := Lib.hid hlt; have HFR := Lib.hid hfree; have HOW1 := Lib.hid hown1
        have HNE := Lib.hid hne; have HSZ := Lib.hid hsz
        clear hrg1 hL1 hcp1 hmj hlt hfree hmiss hil hself hlk hRv hat hg1 hs1 hrg hi hne hsz
        go_wp2_with (first
          | (at_mapUpdate; refine wpList_mapUpdate_own _ rfl _ _ _ 99 rfl 9 3 law Try.underlying99 (plainElem Try.prog 3) (w3.heap.size) n' D' rfl HOW1.out (by unfold maxLen; omega) _ _ (klit l) rfl rfl hkey _ [] hval ?_; intro w8 hown8 hg8)
          | fail)
        have HALL := Lib.hid (And.intro (HRG1.out.kept hg8 (fun e => by have := Option.some.inj e; have := HNE.out; have := HSZ.out; omega) (fun e => by have := Option.some.inj e; have := HSZ.out; omega)) (And.intro (HL1.out.next hg8 (fun b hb => by cases hb; exact ⟨by have := HSZ.out; omega, fun cs t h => owns_ne HOW1.out h rfl⟩)) (And.intro hown8 (And.intro HMJ1.out (And.intro HCP1.out (show n' + 1 = cntOf (ks'.set i (some l)) by rw [cnt_set HFR.out, HN.out.1]))))))
        clear hown8 hg8 hen hkey
        go_roundw
        case rel => exact ⟨_, _, _, _, _, _, _, _, _, _, _, _, _, Lib.hid ⟨_, cnt1, _, _, _, HALL.out⟩, rfl⟩
        case measure => rw [HALL.out.1.left_eq, HRG.out.left_eq]; exact HLT.out
end
end Go.Proofs.Ytfbajampfiodeaa.Lru
