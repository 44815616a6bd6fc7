/- lru.Index in memory: what its blocks hold; leave and touch, walked by hand. -/
import Derived.Test.YtfbajampfiodeaaHashCopy
import Derived.Test.YtfbajampfiodeaaShelf
import Derived.Test.YtfbajampfiodeaaShelfG
import Derived.WideKeyEntry
namespace Go.Proofs.Ytfbajampfiodeaa.Lru
open Go.RowKit Go.Maps Go.Proofs.Ytfbajampfiodeaa.PArrayPlays Go.Proofs.YtfbajampfiodeaaW.PrintWords Go.Proofs.YtfbajampfiodeaaW.PrintLast Go.Proofs.YtfbajampfiodeaaW.PrintMore Go.Proofs.Ytfbajampfiodeaa.Mw Go.Proofs.Ytfbajampfiodeaa.Rx Go.Proofs.Ytfbajampfiodeaa.RxOps Go.Proofs.Ytfbajampfiodeaa.RxPut Go.Proofs.Ytfbajampfiodeaa.RxNew Go.Proofs.Ytfbajampfiodeaa.Hm Go.Proofs.Ytfbajampfiodeaa.Hash
set_option linter.unusedVariables false
abbrev ints (ord : List Int) : List Value := ord.map (Value.int .i64)
/-- The order's slice. -/
def OrdAt (w : World) (F : Nat → Prop) (V : Value) (ord : List Int) : Prop := w.ownsRow 0 3 1 V ord.length (ints ord) ∧ ∀ b, V.ownBlock = some b → F b
structure LIx (w : World) (F : Nat → Prop) (g bm gk gt ct : Nat) (sz : Int) (ks : List (Option (List Int))) (tk : List Bool) (V : Value) (ord : List Int) : Prop where
  self : ∃ c1 c2 : Nat, w.heap[g]? = some (.cells #[.int .i64 sz, .map (some bm), .slice (some ⟨gk, 0, none⟩) ks.length c1, .slice (some ⟨gt, 0, none⟩) ks.length c2, V] 106 (0, 0)) ∧ ks.length ≤ c1 ∧ ks.length ≤ c2
  map : ∃ D : DataW Unit, w.ownsMap Try.prog 9 (plainElem Try.prog 3) bm ct D ∧ MapIs D ks
  kys : ∃ kv : List ByteArray, Row w gk 9 (kv.map Value.string) ∧ kv.length = ks.length ∧ ∀ (i : Nat) (l : List Int), ks[i]? = some (some l) → kv[i]? = some (strOfNums l)
  taken : Row w gt 4 (tk.map Value.bool) ∧ tk.length = ks.length
  ord : OrdAt w F V ord
  inF : F g ∧ F bm ∧ F gk ∧ F gt
  lt : ∀ b, F b → b < w.heap.size
  ok : KeysOk sz ks
theorem OrdAt.keep {w w' : World} {F : Nat → Prop} {V : Value} {ord : List Int} (h : OrdAt w F V ord) (hk : ∀ b, F b → w'.heap[b]? = w.heap[b]?) : OrdAt w' F V ord :=
  ⟨own_move h.1 fun k hk2 => hk k (h.2 k hk2), h.2⟩
section
variable {w w' : World} {F F' : Nat → Prop} {g bm gk gt ct : Nat} {sz : Int} {ks : List (Option (List Int))} {tk : List Bool} {V : Value} {ord : List Int}
theorem LIx.keep (h : LIx w F g bm gk gt ct sz ks tk V ord) (hk : ∀ b, F b → w'.heap[b]? = w.heap[b]?) (hsz : w.heap.size ≤ w'.heap.size) : LIx w' F g bm gk gt ct sz ks tk V ord := by
  obtain ⟨c1, c2, hs, hc⟩ := h.self
  obtain ⟨D, hD, hm⟩ := h.map
  obtain ⟨kv, h1, h2⟩ := h.kys
  exact ⟨⟨c1, c2, (hk g h.inF.1).trans hs, hc⟩, ⟨D, owns_keep hD (hk bm h.inF.2.1), hm⟩, ⟨kv, h1.keep (hk gk h.inF.2.2.1), h2⟩, ⟨h.taken.1.keep (hk gt h.inF.2.2.2), h.taken.2⟩, h.ord.keep hk, h.inF, fun b hb => Nat.lt_of_lt_of_le (h.lt b hb) hsz, h.ok⟩
theorem LIx.step {G G' : Nat → Prop} (h : LIx w F g bm gk gt ct sz ks tk V ord) (hs : Step w w' G G') (ha : ∀ b, F b → ¬ G b) : LIx w' F g bm gk gt ct sz ks tk V ord :=
  h.keep (fun b hb => hs.block b (h.lt b hb) (ha b hb)) hs.size
theorem LIx.drewN (h : LIx w F g bm gk gt ct sz ks tk V ord) (n : Nat) : LIx (w.drewN n) F g bm gk gt ct sz ks tk V ord := h.keep (fun _ _ => rfl) (Nat.le_refl _)
theorem LIx.below (h : LIx w F g bm gk gt ct sz ks tk V ord) (hb : Below w.heap.size w w') : LIx w' F g bm gk gt ct sz ks tk V ord := h.keep (fun b hF => hb.block b (h.lt b hF)) hb.size
theorem LIx.alloc (h : LIx w F g bm gk gt ct sz ks tk V ord) (o : Obj) : LIx (w.alloc o) F g bm gk gt ct sz ks tk V ord := h.keep (fun b hF => Below.heap_alloc w o b (h.lt b hF)) (by simp)
theorem LIx.more (h : LIx w F g bm gk gt ct sz ks tk V ord) {ct' : Nat} (hc : ct ≤ ct') : LIx w F g bm gk gt ct' sz ks tk V ord := by
  obtain ⟨D, hD, hm⟩ := h.map
  exact ⟨h.self, ⟨D, hD.mono hc, hm⟩, h.kys, h.taken, h.ord, h.inF, h.lt, h.ok⟩
theorem LIx.cells (h : LIx w F g bm gk gt ct sz ks tk V ord) : ∃ c1 c2 : Nat, w.cell? ⟨g, 0, none⟩ = some (.int .i64 sz) ∧ w.cell? ⟨g, 1, none⟩ = some (.map (some bm)) ∧ w.cell? ⟨g, 2, none⟩ = some (.slice (some ⟨gk, 0, none⟩) ks.length c1) ∧ w.cell? ⟨g, 3, none⟩ = some (.slice (some ⟨gt, 0, none⟩) ks.length c2) ∧ w.cell? ⟨g, 4, none⟩ = some V ∧ w.frozen? ⟨g, 4, none⟩ = false ∧ ks.length ≤ c1 ∧ ks.length ≤ c2 := by
  obtain ⟨c1, c2, hs, hc⟩ := h.self
  exact ⟨c1, c2, (blk_cell hs 0).trans rfl, (blk_cell hs 1).trans rfl, (blk_cell hs 2).trans rfl, (blk_cell hs 3).trans rfl, (blk_cell hs 4).trans rfl, blk_frozen hs 4, hc⟩
theorem LIx.tkc (h : LIx w F g bm gk gt ct sz ks tk V ord) (i : Nat) (hi : i < tk.length) : w.cell? ⟨gt, i, none⟩ = some (.bool (tk[i]'hi)) := by
  rw [h.taken.1.cell i (by rw [List.length_map]; exact hi), List.getElem_map]
theorem OrdAt.ne {w : World} {F : Nat → Prop} {V : Value} {ord : List Int} (h : OrdAt w F V ord) {b t : Nat} {cs : Array Value} (hb : w.heap[b]? = some (.cells cs t (0, 0))) (ht : t ≠ 3) : V.ownBlock ≠ some b := fun e => by
  obtain ⟨cs', h'⟩ := own_typed h.1 b e
  exact blk_ne hb h' ht rfl
theorem OrdAt.ne_map {w : World} {F : Nat → Prop} {V : Value} {ord : List Int} (h : OrdAt w F V ord) {bm ct : Nat} {D : DataW Unit} (hb : w.ownsMap Try.prog 9 (plainElem Try.prog 3) bm ct D) : V.ownBlock ≠ some bm := fun e => by
  obtain ⟨cs', h'⟩ := own_typed h.1 bm e
  exact owns_ne hb h' rfl
/-- The order is turned, and its slice's value written. -/
theorem LIx.turn (h : LIx w F g bm gk gt ct sz ks tk V ord) {w1 : World} {V' : Value} {ord' : List Int} (hg : w.grownBy w1 V.ownBlock) (ho : w1.ownsRow 0 3 1 V' ord'.length (ints ord')) (hV : V'.ownBlock = V.ownBlock ∨ ∃ b, V'.ownBlock = some b ∧ w.heap.size ≤ b) :
    LIx (w1.setCell ⟨g, 4, none⟩ V') (fun b => F b ∨ V'.ownBlock = some b) g bm gk gt ct sz ks tk V' ord' ∧ Step w (w1.setCell ⟨g, 4, none⟩ V') F (fun b => F b ∨ V'.ownBlock = some b) ∧ w1.cell? ⟨g, 4, none⟩ = some V ∧ w1.frozen? ⟨g, 4, none⟩ = false := by
  obtain ⟨c1, c2, hs, hc⟩ := h.self
  obtain ⟨D, hD, hm⟩ := h.map
  obtain ⟨kv, ⟨rk, h1⟩, h2⟩ := h.kys
  obtain ⟨⟨rt, h3⟩, h4⟩ := h.taken
  have n1 := h.ord.ne hs (by decide)
  have n2 := h.ord.ne h1 (by decide)
  have n3 := h.ord.ne h3 (by decide)
  have n4 := h.ord.ne_map hD
  have k1 := (hg.block g (blk_lt hs) (fun e => n1 e.symm)).trans hs
  have k2 := (hg.block gk (blk_lt h1) (fun e => n2 e.symm)).trans h1
  have k3 := (hg.block gt (blk_lt h3) (fun e => n3 e.symm)).trans h3
  have k4 := owns_keep hD (hg.block bm hD.lt (fun e => n4 e.symm))
  have hgo : V'.ownBlock ≠ some g := fun e => by
    obtain ⟨cs', h'⟩ := own_typed ho g e
    exact blk_ne k1 h' (by decide) rfl
  refine ⟨⟨⟨c1, c2, ?_, hc⟩, ⟨D, owns_keep k4 (Below.heap_setCell w1 _ _ bm (owns_ne k4 k1).symm), hm⟩, ⟨kv, Row.keep ⟨rk, k2⟩ (Below.heap_setCell w1 _ _ gk (blk_ne k2 k1 (by decide))), h2⟩, ⟨Row.keep ⟨rt, k3⟩ (Below.heap_setCell w1 _ _ gt (blk_ne k3 k1 (by decide))), h4⟩, ⟨own_move ho fun k hk => Below.heap_setCell w1 _ _ k (by rintro rfl; exact hgo hk), fun b hb => .inr hb⟩, ⟨.inl h.inF.1, .inl h.inF.2.1, .inl h.inF.2.2.1, .inl h.inF.2.2.2⟩, ?_, h.ok⟩, ⟨?_, ?_, ?_, ?_, ?_, ?_⟩, (blk_cell k1 4).trans rfl, blk_frozen k1 4⟩
  · simp [World.setCell, Array.getElem?_modify, k1]
  · rintro b (hb | hb)
    · have := h.lt b hb
      have := hg.size
      simp [World.setCell]
      omega
    · have := own_lt ho b hb
      simpa [World.setCell] using this
  · exact hg.os
  · exact hg.tape
  · exact hg.output
  · simpa [World.setCell] using hg.size
  · intro b hb hF
    refine (Below.heap_setCell w1 _ _ b (by rintro rfl; exact hF h.inF.1)).trans (hg.block b hb (fun e => hF (h.ord.2 b e.symm)))
  · rintro b (hb | hb)
    · exact .inl hb
    · rcases hV with e | ⟨b', e, hb'⟩
      · exact .inl (h.ord.2 b (e ▸ hb))
      · rw [hb] at e
        cases e
        exact .inr hb'
/-! ### slices.DeleteFunc -/
theorem gives (s x : Int) (B : Nat) (W : World) (hc : W.cell? ⟨B, 0, none⟩ = some (.int .i64 s)) :
    FnGives Try.prog 84 #[.pointer (some ⟨B, 0, none⟩)] #[.int .i64 x] (.bool (decide (x = s))) W := by
  show Calls Try.prog 84 #[.int .i64 x, .pointer (some ⟨B, 0, none⟩)] W _
  go_enter Try.func84, Try.ntmps84
  go_wp2
  all_goals (go_ret; exact ⟨by simp_all; by_cases h : x = s <;> simp [h], 0, rfl⟩)
abbrev drop_ (s : Int) (ord : List Int) : List Int := ord.filter fun x => !decide (x = s)
theorem filter_len (s : Int) (ord : List Int) : (drop_ s ord).length ≤ ord.length := List.length_filter_le _ _
open Go.Sort in
theorem dropped (h : OrdAt w F V ord) (s : Int) (hl : ord.length ≤ 64) (B : Nat) (hB : B < w.heap.size) (hbox : w.cell? ⟨B, 0, none⟩ = some (.int .i64 s)) (hne : V.ownBlock ≠ some B) :
    Calls Try.prog 83 #[V, .func (.func 84) #[] #[.pointer (some ⟨B, 0, none⟩)]] w fun e w' => ∃ V', e = .returned V' ∧ w'.ownsRow 0 3 1 V' (drop_ s ord).length (ints (drop_ s ord)) ∧ V'.ownBlock = V.ownBlock ∧ w.grownBy w' V.ownBlock := by
  obtain ⟨⟨hlen, hv⟩, hF⟩ := h
  rcases hv with ⟨rfl, h0⟩ | ⟨b, cap, cur, rfl, _, hb, hc1, hc2, hc3, hc4⟩
  · obtain rfl : ord = [] := List.eq_nil_of_length_eq_zero h0
    have hIF := AnyE.slices_IndexFunc_empty (P := Try.prog) (ρ := Try.layDf_ren) { Try.layDf with } none 0 (.func (.func 84) #[] #[.pointer (some ⟨B, 0, none⟩)]) w
    change Calls Try.prog 87 _ _ _ at hIF
    clear hlen hF hbox hl
    go_enter Try.func83, Try.ntmps83
    go_wp2_with fail
    refine hIF.mono ?_
    rintro e w1 ⟨rfl, rfl⟩
    go_wp2
    go_ret
    exact ⟨_, rfl, World.ownsRow_nil _ _ _ _, rfl, ⟨rfl, rfl, rfl, Nat.le_refl _, fun _ _ _ => rfl⟩⟩
  · have hbB : B ≠ b := fun e => hne (by simp [Value.ownBlock, e])
    rw [Nat.mul_one] at hc3 hc4
    have hcell : ∀ j (hj : j < ord.length), w.cell? ⟨b, j, none⟩ = some (.int .i64 ord[j]) := fun j hj => by
      rw [blk_cell hb j]
      have : (cur.toList.take ord.length)[j]? = some (.int .i64 ord[j]) := by rw [hc4, List.getElem?_map, List.getElem?_eq_getElem hj]; rfl
      rw [List.getElem?_take_of_lt hj] at this
      simpa using this
    have eg : ∀ args w, (callFunc 84 args).run Try.prog w = .ok (.enter 84 args) w := enters_of Try.func84 (by kernel_rfl) rfl
    have hcon := AnyE.slices_DeleteFunc Try.layDf (Value.int .i64) (fun _ => rfl) (fun x => decide (x = s)) 84 #[.pointer (some ⟨B, 0, none⟩)] eg 0 Try.zeroValue3 b 0 cap ord.toArray w
      (fun W x hb => gives s x B W ((hb.cell (p := ⟨B, 0, none⟩) hB).trans hbox))
      (fun n os dk x _ => gives s x B _ (by
        unfold sortWorld
        rw [cell?_grow _ _ _ (by show B < (putRow _ _ _ _ _).heap.size; rw [size_putRow]; exact hB), cell?_putRow_other _ _ b 0 _ _ (Or.inl hbB)]
        exact hbox))
      (fun j hj => by
        have hj' : j < ord.length := by simpa using hj
        rw [Nat.zero_add, getElem!_pos ord.toArray j hj]
        exact ⟨by simpa using hcell j hj', blk_frozen hb j⟩) (by simp; omega) (by simpa using hc1)
    change Calls Try.prog 83 _ _ _ at hcon
    have hsz : ord.toArray.size = ord.length := by simp
    rw [hsz] at hcon
    refine hcon.mono ?_
    rintro e w1 ⟨rfl, q, rfl⟩
    have hfl := filter_len s ord
    refine ⟨_, rfl, ⟨by simp, .inr ⟨b, cap, putCells (Value.int .i64) 0 ((drop_ s ord) ++ List.replicate (ord.length - (drop_ s ord).length) 0).toArray cur, rfl, Nat.zero_le _, ?_, ?_, hc2, ?_, ?_⟩⟩, rfl, ⟨rfl, rfl, rfl, ?_, fun k hk he => ?_⟩⟩
    · show (w.heap.modify b _)[b]? = _
      rw [Array.getElem?_modify, if_pos rfl, hb]
      rfl
    · have := filter_len s ord
      exact Nat.le_trans this hc1
    · simp [putCells, hc3]
    · rw [Nat.mul_one]
      apply List.ext_getElem?
      intro j
      by_cases hj : j < (drop_ s ord).length
      · rw [List.getElem?_take_of_lt hj, Array.getElem?_toList]
        unfold putCells
        have hjc : j < cur.size := by rw [hc3]; omega
        rw [Array.getElem?_mapIdx, Array.getElem?_eq_getElem hjc, Option.map_some, if_pos ⟨Nat.zero_le _, by simp; omega⟩, Nat.sub_zero, List.getElem?_map, List.getElem?_eq_getElem hj]
        congr 1
        rw [getElem!_pos _ j (by simp; omega)]
        simp [List.getElem_append_left hj]
      · rw [List.getElem?_eq_none (by rw [List.length_take]; omega), List.getElem?_eq_none (by rw [List.length_map]; omega)]
    · show w.heap.size ≤ (w.heap.modify b _).size
      simp
    · show (w.heap.modify b _)[k]? = _
      rw [Array.getElem?_modify, if_neg (fun e => he (by rw [← e]; rfl))]
theorem own_sl {w : World} {n : Nat} {V : Value} {xs : List Value} (h : w.ownsRow 0 3 1 V n xs) : ∃ A c, V = .slice A n c := by
  rcases h.2 with ⟨e, e2⟩ | ⟨g, cap, cur, e, _⟩
  · exact ⟨none, 0, by rw [e, e2]⟩
  · exact ⟨_, cap, e⟩
set_option maxHeartbeats 1000000 in
theorem leave_ (h : LIx w F g bm gk gt ct sz ks tk V ord) (s : Int) (hl : ord.length ≤ 64) :
    Calls Try.prog 67 #[.pointer (some ⟨g, 0, none⟩), .int .i64 s] w fun e w' => e = .returned (.tuple #[]) ∧ ∃ F' V', LIx w' F' g bm gk gt ct sz ks tk V' (drop_ s ord) ∧ Step w w' F F' := by
  have h1 := h.alloc (.cells #[.int .i64 s] 3)
  obtain ⟨c1, c2, _, _, _, _, g4, f4, _⟩ := h1.cells
  have hne : V.ownBlock ≠ some w.heap.size := fun e => by have := h.lt _ (h.ord.2 _ e); omega
  have hcon := (dropped h1.ord s hl w.heap.size (by simp) (by simp) hne)
  have HI := Lib.hid h1
  clear h h1 hne
  go_enter Try.func67, Try.ntmps67
  go_wp2_with fail
  refine hcon.mono ?_
  rintro e w1 ⟨V', rfl, ho, hV, hg⟩
  obtain ⟨A', c', rfl⟩ := own_sl ho
  obtain ⟨hL, hS, g4', f4'⟩ := HI.out.turn hg ho (.inl hV)
  have HL := Lib.hid hL; have HS := Lib.hid hS
  clear hL hS ho hV hg hcon g4 f4
  go_wp2
  go_end0
  exact ⟨rfl, _, _, HL.out, ((Step.refl w F).alloc _).trans HS.out⟩
theorem info3 : (Try.prog.info? 3).map (fun i => (i.zero, i.size, i.bytes)) = some (some (.int .i64 0), 1, 8) := by kernel_rfl
set_option maxHeartbeats 1000000 in
theorem touch_ (h : LIx w F g bm gk gt ct sz ks tk V ord) (s : Int) (hl : ord.length ≤ 64) :
    Calls Try.prog 65 #[.pointer (some ⟨g, 0, none⟩), .int .i64 s] w fun e w' => e = .returned (.tuple #[]) ∧ ∃ F' V', LIx w' F' g bm gk gt ct sz ks tk V' (drop_ s ord ++ [s]) ∧ Step w w' F F' := by
  have hcon := leave_ h s hl
  have hfl := filter_len s ord
  clear h
  go_enter Try.func65, Try.ntmps65
  go_wp2_with fail
  refine hcon.mono ?_
  rintro e w1 ⟨rfl, F1, V1, h1, s1⟩
  obtain ⟨c1, c2, _, _, _, _, g4, f4, _⟩ := h1.cells
  have HI := Lib.hid h1; have HS := Lib.hid s1
  clear hcon h1 s1
  go_wp2_with (first
    | ((with_reducible refine gate_builtin (b := .append) (xs := #[.tmp 11, .tmp 13]) rfl ?_)
       at_builtin
       refine print_append_cells (w0 := w1) 0 rfl (.tmp 11) (.tmp 13) 89 3 (.int .i64 0) 1 8 rfl Try.underlying89 info3 rfl (by decide) (by decide) V1 (drop_ s ord).length (ints (drop_ s ord)) [.int .i64 s] rfl rfl rfl (by simp; rfl) HI.out.ord.1 ⟨rfl, rfl, rfl, Nat.le_refl _, fun _ _ => rfl⟩ (Nat.zero_le _) (by omega) ?_
       intro V2 w2 ho hb hg hV
       obtain ⟨A', c', rfl⟩ := own_sl ho
       obtain ⟨hL, hS, g4', f4'⟩ := HI.out.turn (ord' := drop_ s ord ++ [s]) hg (by rw [List.length_append, ints, List.map_append]; exact ho) hV
       have HL := Lib.hid hL; have HS2 := Lib.hid hS
       clear hL hS ho hV hg hb g4 f4)
    | fail)
  go_end0
  exact ⟨rfl, _, _, HL.out, HS.out.trans HS2.out⟩
end
end Go.Proofs.Ytfbajampfiodeaa.Lru
namespace Go.Proofs.Ytfbajampfiodeaa.Lru
open Go.RowKit Go.Maps Go.Proofs.Ytfbajampfiodeaa.PArrayPlays Go.Proofs.YtfbajampfiodeaaW.PrintWords Go.Proofs.YtfbajampfiodeaaW.PrintLast Go.Proofs.YtfbajampfiodeaaW.PrintMore Go.Proofs.Ytfbajampfiodeaa.Mw Go.Proofs.Ytfbajampfiodeaa.Rx Go.Proofs.Ytfbajampfiodeaa.RxOps Go.Proofs.Ytfbajampfiodeaa.RxPut Go.Proofs.Ytfbajampfiodeaa.RxNew Go.Proofs.Ytfbajampfiodeaa.Hm Go.Proofs.Ytfbajampfiodeaa.Hash
set_option linter.unusedVariables false
section
variable {w w' : World} {F F' : Nat → Prop} {g bm gk gt ct : Nat} {sz : Int} {ks : List (Option (List Int))} {tk : List Bool} {V : Value} {ord : List Int}
theorem LIx.still (h : LIx w F g bm gk gt ct sz ks tk V ord) {w1 : World} (hg : w.grownBy w1 (some bm)) : w1.heap[g]? = w.heap[g]? ∧ w1.heap[gk]? = w.heap[gk]? ∧ w1.heap[gt]? = w.heap[gt]? ∧ ∀ b, V.ownBlock = some b → w1.heap[b]? = w.heap[b]? := by
  obtain ⟨c1, c2, hs, hc⟩ := h.self
  obtain ⟨D, hD, hm⟩ := h.map
  obtain ⟨kv, ⟨rk, h1⟩, h2⟩ := h.kys
  obtain ⟨⟨rt, h3⟩, h4⟩ := h.taken
  exact ⟨hg.block g (blk_lt hs) (fun e => owns_ne hD hs (by injection e)), hg.block gk (blk_lt h1) (fun e => owns_ne hD h1 (by injection e)), hg.block gt (blk_lt h3) (fun e => owns_ne hD h3 (by injection e)), fun b hb => hg.block b (own_lt h.ord.1 b hb) (fun e => h.ord.ne_map hD (by rw [hb]; exact e))⟩
theorem LIx.mapTo (h : LIx w F g bm gk gt ct sz ks tk V ord) {w1 : World} {ct' : Nat} {D : DataW Unit} (hg : w.grownBy w1 (some bm)) (i : Nat) (hD : w1.ownsMap Try.prog 9 (plainElem Try.prog 3) bm ct' D) (hm : MapIs D (ks.set i none)) :
    LIx w1 F g bm gk gt ct' sz (ks.set i none) tk V ord ∧ Step w w1 F F := by
  obtain ⟨q1, q2, q3, q4⟩ := h.still hg
  obtain ⟨c1, c2, hs, hc⟩ := h.self
  obtain ⟨kv, h1, h2, h3⟩ := h.kys
  refine ⟨⟨⟨c1, c2, by rw [List.length_set]; exact q1.trans hs, by rw [List.length_set]; exact hc⟩, ⟨D, hD, hm⟩, ⟨kv, h1.keep q2, by rw [List.length_set]; exact h2, fun j l hj => ?_⟩, ⟨h.taken.1.keep q3, by rw [List.length_set]; exact h.taken.2⟩, ⟨own_move h.ord.1 q4, h.ord.2⟩, h.inF, fun b hb => Nat.lt_of_lt_of_le (h.lt b hb) hg.size, h.ok.set_ i none (fun l e => by cases e)⟩, Step.of_grown hg h.inF.2.1⟩
  by_cases e : i = j
  · subst e
    rw [List.getElem?_set] at hj
    split at hj
    · split at hj <;> cases hj
    · exact absurd rfl ‹¬ i = i›
  · rw [List.getElem?_set_ne e] at hj
    exact h3 j l hj
theorem LIx.fill (h : LIx w F g bm gk gt ct sz ks tk V ord) {w1 : World} {ct' : Nat} {D : DataW Unit} (hg : w.grownBy w1 (some bm)) (i : Nat) (hi : i < ks.length) (l : List Int) (hl : (l.length : Int) = sz ∧ Bs l) (hD : w1.ownsMap Try.prog 9 (plainElem Try.prog 3) bm ct' D) (hm : MapIs D (ks.set i (some l))) :
    LIx (w1.setCell ⟨gk, i, none⟩ (.string (strOfNums l))) F g bm gk gt ct' sz (ks.set i (some l)) tk V ord ∧ Step w (w1.setCell ⟨gk, i, none⟩ (.string (strOfNums l))) F F := by
  obtain ⟨q1, q2, q3, q4⟩ := h.still hg
  obtain ⟨c1, c2, hs, hc⟩ := h.self
  obtain ⟨kv, h1, h2, h3⟩ := h.kys
  have hb1 := h1.keep q2
  obtain ⟨rk, hk⟩ := hb1
  obtain ⟨⟨rt, ht⟩, ht2⟩ := h.taken
  have e1 := Below.heap_setCell w1 ⟨gk, i, none⟩ (.string (strOfNums l))
  refine ⟨⟨⟨c1, c2, by rw [List.length_set]; exact (e1 g (blk_ne (q1.trans hs) hk (by decide))).trans (q1.trans hs), by rw [List.length_set]; exact hc⟩, ⟨D, owns_keep hD (e1 bm (owns_ne hD hk).symm), hm⟩, ?_, ⟨Row.keep ⟨rt, q3.trans ht⟩ (e1 gt (blk_ne (q3.trans ht) hk (by decide))), by rw [List.length_set]; exact ht2⟩, ⟨own_move h.ord.1 fun b hb => ?_, h.ord.2⟩, h.inF, fun b hb => ?_, h.ok.set_ i _ (fun l' e => by cases e; exact hl)⟩, (Step.of_grown hg h.inF.2.1).setCell (.inl h.inF.2.2.1) _⟩
  · refine ⟨kv.set i (strOfNums l), ?_, by rw [List.length_set, List.length_set]; exact h2, fun j l' hj => ?_⟩
    · have := Row.set_ ⟨rk, hk⟩ i (by rw [List.length_map, h2]; exact hi) (.string (strOfNums l))
      rw [List.map_set]
      exact this
    · by_cases e : i = j
      · subst e
        rw [List.getElem?_set_self (by omega)] at hj
        cases hj
        rw [List.getElem?_set_self (by omega)]
      · rw [List.getElem?_set_ne e] at hj ⊢
        exact h3 j l' hj
  · refine (e1 b ?_).trans (q4 b hb)
    rintro rfl
    exact h.ord.ne (t := 9) ((q2).symm.trans hk) (by decide) hb
  · have := h.lt b hb
    have := hg.size
    simp [World.setCell]
    omega
theorem LIx.mark (h : LIx w F g bm gk gt ct sz ks tk V ord) (i : Nat) (hi : i < tk.length) (b : Bool) :
    LIx (w.setCell ⟨gt, i, none⟩ (.bool b)) F g bm gk gt ct sz ks (tk.set i b) V ord ∧ Step w (w.setCell ⟨gt, i, none⟩ (.bool b)) F F := by
  obtain ⟨c1, c2, hs, hc⟩ := h.self
  obtain ⟨D, hD, hm⟩ := h.map
  obtain ⟨kv, ⟨rk, h1⟩, h2⟩ := h.kys
  obtain ⟨⟨rt, h3⟩, h4⟩ := h.taken
  have e1 := Below.heap_setCell w ⟨gt, i, none⟩ (.bool b)
  refine ⟨⟨⟨c1, c2, (e1 g (blk_ne hs h3 (by decide))).trans hs, hc⟩, ⟨D, owns_keep hD (e1 bm (owns_ne hD h3).symm), hm⟩, ⟨kv, Row.keep ⟨rk, h1⟩ (e1 gk (blk_ne h1 h3 (by decide))), h2⟩, ⟨?_, by rw [List.length_set]; exact h4⟩, ⟨own_move h.ord.1 fun b hb => e1 b ?_, h.ord.2⟩, h.inF, fun b hb => ?_, h.ok⟩, (Step.refl _ _).setCell (.inl h.inF.2.2.2) _⟩
  · have := Row.set_ ⟨rt, h3⟩ i (by rw [List.length_map]; exact hi) (.bool b)
    rw [List.map_set]
    exact this
  · rintro rfl
    exact h.ord.ne h3 (by decide) hb
  · have := h.lt b hb
    simpa [World.setCell] using this
/-! ### the methods -/
theorem New_bad (s m : Int) (w : World) (h : s < 1 ∨ s > 16 ∨ m < 1 ∨ m > 64) :
    Calls Try.prog 38 #[.int .i64 s, .int .i64 m] w fun e w' => e = .returned (.tuple #[.pointer none, .int .i64 2]) ∧ w = w' := by
  by_cases h1 : s < 1
  · clear h
    go_enter Try.func38, Try.ntmps38
    go_wp2
    go_ret2
    exact ⟨rfl, rfl⟩
  · by_cases h2 : s > 16
    · clear h
      go_enter Try.func38, Try.ntmps38
      go_wp2
      go_ret2
      exact ⟨rfl, rfl⟩
    · by_cases h3 : m < 1
      · clear h
        go_enter Try.func38, Try.ntmps38
        go_wp2
        go_ret2
        exact ⟨rfl, rfl⟩
      · have h4 : m > 64 := by omega
        clear h
        go_enter Try.func38, Try.ntmps38
        go_wp2
        go_ret2
        exact ⟨rfl, rfl⟩
theorem Find_nil (A : Option Addr) (l c : Nat) (w : World) :
    Calls Try.prog 39 #[.pointer none, .slice A l c] w fun e w' => e = .returned (.tuple #[.int .i64 0, .bool false]) ∧ w = w' := by
  go_enter Try.func39, Try.ntmps39
  go_wp2
  go_ret2
  exact ⟨rfl, rfl⟩
theorem Put_nil (A : Option Addr) (l c : Nat) (f : Int) (w : World) :
    Calls Try.prog 40 #[.pointer none, .slice A l c, .int .u64 f] w fun e w' => e = .returned (.tuple #[.int .i64 0, .bool false, .int .i64 1]) ∧ w = w' := by
  go_enter Try.func40, Try.ntmps40
  go_wp2
  go_ret3
  exact ⟨rfl, rfl⟩
theorem Del_nil (A : Option Addr) (l c : Nat) (w : World) :
    Calls Try.prog 45 #[.pointer none, .slice A l c] w fun e w' => e = .returned (.tuple #[.int .i64 0, .int .i64 1]) ∧ w = w' := by
  go_enter Try.func45, Try.ntmps45
  go_wp2
  go_ret2
  exact ⟨rfl, rfl⟩
theorem Keys_nil (w : World) :
    Calls Try.prog 41 #[.pointer none] w fun e w' => e = .returned (.slice none 0 0) ∧ w = w' := by
  go_enter Try.func41, Try.ntmps41
  go_wp2
  go_ret
  exact ⟨rfl, rfl⟩
theorem Copy_nil (w : World) :
    Calls Try.prog 46 #[.pointer none] w fun e w' => e = .returned (.pointer none) ∧ w = w' := by
  go_enter Try.func46, Try.ntmps46
  go_wp2
  go_ret
  exact ⟨rfl, rfl⟩
theorem Find_miss (h : LIx w F g bm gk gt ct sz ks tk V ord) (A : Option Addr) (c : Nat) (l : List Int) (hC : Kd.C (Kd.int .u8) w A l.length l) (hlb : Bs l) (hs : sameAt l ks 0 < 0) :
    Calls Try.prog 39 #[.pointer (some ⟨g, 0, none⟩), .slice A l.length c] w fun e w' => e = .returned (.tuple #[.int .i64 0, .bool false]) ∧ ∃ n, w' = w.drewN n := by
  obtain ⟨c1, c2, g0, g1, g2, g3, g4, f4, hc1, hc2⟩ := h.cells
  obtain ⟨D, hD, hm⟩ := h.map
  have hcv := Kd.C_string (P := Try.prog) (A := A) (c := c) Try.underlying32 Try.underlying5 Try.underlying9 (Kd.C_drew hC)
  have hlk := look_miss (w := w.drew) hD hm (fun l hl => (h.ok.kb l hl).2) l hlb hC.2.1 hs
  clear h hD hm hC g0 g2 g3 g4 hc1 hc2 hs
  go_enter Try.func39, Try.ntmps39
  go_wp2
  go_region
  go_wp2
  go_ret2
  exact ⟨rfl, ⟨_, rfl⟩⟩
theorem Find_hit (h : LIx w F g bm gk gt ct sz ks tk V ord) (A : Option Addr) (c : Nat) (l : List Int) (hC : Kd.C (Kd.int .u8) w A l.length l) (i : Nat) (hs : sameAt l ks 0 = (i : Int)) (hol : ord.length ≤ 64) :
    Calls Try.prog 39 #[.pointer (some ⟨g, 0, none⟩), .slice A l.length c] w fun e w' => e = .returned (.tuple #[.int .i64 (i : Int), .bool true]) ∧ ∃ F' V', LIx w' F' g bm gk gt ct sz ks tk V' (drop_ (i : Int) ord ++ [(i : Int)]) ∧ Step w w' F F' := by
  obtain ⟨c1, c2, g0, g1, g2, g3, g4, f4, hc1, hc2⟩ := h.cells
  obtain ⟨D, hD, hm⟩ := h.map
  have hcv := Kd.C_string (P := Try.prog) (A := A) (c := c) Try.underlying32 Try.underlying5 Try.underlying9 (Kd.C_drew hC)
  have hlk := look_hit (w := w.drew) hD hm l hC.2.1 i hs
  have HI := Lib.hid h
  clear h hD hm hC g0 g2 g3 g4 f4 hc1 hc2 hs
  go_enter Try.func39, Try.ntmps39
  go_wp2
  go_region
  go_wp2_with fail
  refine (touch_ (HI.out.drewN 1) (i : Int) hol).mono ?_
  rintro e w1 ⟨rfl, F1, V1, h1, s1⟩
  have H1 := Lib.hid h1; have S1 := Lib.hid s1
  clear h1 s1
  go_wp2
  go_ret2
  exact ⟨rfl, _, _, H1.out, S1.out.undrewN⟩
end
end Go.Proofs.Ytfbajampfiodeaa.Lru
namespace Go.Proofs.Ytfbajampfiodeaa.Lru
open Go.RowKit Go.Maps Go.Proofs.Ytfbajampfiodeaa.PArrayPlays Go.Proofs.YtfbajampfiodeaaW.PrintWords Go.Proofs.YtfbajampfiodeaaW.PrintLast Go.Proofs.YtfbajampfiodeaaW.PrintMore Go.Proofs.Ytfbajampfiodeaa.Mw Go.Proofs.Ytfbajampfiodeaa.Rx Go.Proofs.Ytfbajampfiodeaa.RxOps Go.Proofs.Ytfbajampfiodeaa.RxPut Go.Proofs.Ytfbajampfiodeaa.RxNew Go.Proofs.Ytfbajampfiodeaa.Hm Go.Proofs.Ytfbajampfiodeaa.Hash
set_option linter.unusedVariables false
theorem idx_free : ∀ (ks : List (Option (List Int))) (i : Nat), Lib.idxByFrom (fun x y : Bool => x == y) false (ks.map Option.isSome) i = freeAt ks i
  | [], i => rfl
  | k :: t, i => by
    rw [List.map_cons, Lib.idxByFrom, freeAt, idx_free t (i + 1)]
    cases k <;> simp
section
variable {w w' : World} {F F' : Nat → Prop} {g bm gk gt ct : Nat} {sz : Int} {ks : List (Option (List Int))} {tk : List Bool} {V : Value} {ord : List Int}
theorem index_ (h : LIx w F g bm gk gt ct sz ks tk V ord) (htk : tk = ks.map Option.isSome) (c : Nat) :
    Calls Try.prog 82 #[.slice (some ⟨gt, 0, none⟩) ks.length c, .bool false] w fun e w' => e = .returned (.int .i64 (freeAt ks 0)) ∧ w' = w := by
  have h0 := AnyE.slices_Index Try.layIx Value.bool (fun x y => x == y) (EqlAt.bool 4 Try.underlying4) gt 0 ks.length c tk false w (by rw [h.taken.2]; exact Nat.le_refl _) (by have := h.ok.len; omega) (fun j hj => by
    rw [Nat.zero_add, h.tkc j hj, getElem!_pos tk j hj])
  change Calls Try.prog 82 _ _ _ at h0
  rw [List.take_of_length_le (by rw [h.taken.2]; exact Nat.le_refl _), htk] at h0
  unfold Lib.idxBy at h0
  rw [idx_free] at h0
  exact h0
theorem OrdAt.head {x : Int} {r : List Int} (h : OrdAt w F V (x :: r)) : ∃ b cap, V = .slice (some ⟨b, 0, none⟩) (r.length + 1) cap ∧ w.cell? ⟨b, 0, none⟩ = some (.int .i64 x) := by
  obtain ⟨⟨hlen, hv⟩, hF⟩ := h
  rcases hv with ⟨rfl, h0⟩ | ⟨b, cap, cur, rfl, _, hb, hc1, hc2, hc3, hc4⟩
  · simp at h0
  · refine ⟨b, cap, rfl, ?_⟩
    rw [blk_cell hb 0]
    have : (cur.toList.take ((x :: r).length * 1))[0]? = some (.int .i64 x) := by rw [hc4]; rfl
    rw [List.getElem?_take_of_lt (by simp)] at this
    simpa using this
theorem room_free (h : LIx w F g bm gk gt ct sz ks tk V ord) (htk : tk = ks.map Option.isSome) (i : Nat) (hfree : freeAt ks 0 = (i : Int)) :
    Calls Try.prog 66 #[.pointer (some ⟨g, 0, none⟩)] w fun e w' => e = .returned (.int .i64 (i : Int)) ∧ w = w' := by
  obtain ⟨c1, c2, g0, g1, g2, g3, g4, f4, hc1, hc2⟩ := h.cells
  have hix := index_ h htk c2
  rw [hfree] at hix
  clear h
  go_enter Try.func66, Try.ntmps66
  go_wp2_with fail
  refine hix.mono ?_
  rintro e w1 ⟨rfl, rfl⟩
  clear hix
  go_wp2
  go_ret
  exact ⟨rfl, rfl⟩
set_option maxHeartbeats 1000000 in
theorem room_old (h : LIx w F g bm gk gt ct sz ks tk V ord) (htk : tk = ks.map Option.isSome) (hfree : freeAt ks 0 = -1) (i : Nat) (r : List Int) (ho : ord = (i : Int) :: r) (l : List Int) (hi : ks[i]? = some (some l)) :
    Calls Try.prog 66 #[.pointer (some ⟨g, 0, none⟩)] w fun e w' => e = .returned (.int .i64 (i : Int)) ∧ LIx w' F g bm gk gt ct sz (ks.set i none) tk V ord ∧ Step w w' F F := by
  obtain ⟨c1, c2, g0, g1, g2, g3, g4, f4, hc1, hc2⟩ := h.cells
  have hix := index_ h htk c2
  rw [hfree] at hix
  obtain ⟨b, cap, hVe, hb0⟩ := OrdAt.head (ho ▸ h.ord)
  have hil : i < ks.length := (List.getElem?_eq_some_iff.1 hi).1
  obtain ⟨kv, hk1, hk2, hk3⟩ := h.kys
  have hkc := hk1.cell i (by rw [List.length_map, hk2]; exact hil)
  rw [List.getElem_map, (List.getElem?_eq_some_iff.1 (hk3 i l hi)).2] at hkc
  have hd : LIx w.drew F g bm gk gt ct sz ks tk V ord := h.drewN 1
  obtain ⟨D, hD, hm⟩ := hd.map
  have hll := h.ok.kb l (List.mem_of_getElem? hi)
  have hs16 := h.ok.szs
  obtain ⟨w1, hrun, hD1, hg1⟩ := hD.drop law Try.underlying99 (klit_key l (by omega)) 0
  obtain ⟨hL, hS⟩ := hd.mapTo hg1.grown i hD1 (hm.del (fun l hl => (h.ok.kb l hl).2) hi)
  have HL := Lib.hid hL; have HS := Lib.hid hS
  rw [hVe] at g4
  clear hL hS hm hD hD1 hg1 hd h hk1 hk2 hk3 hll hs16 g0 f4
  go_enter Try.func66, Try.ntmps66
  go_wp2_with fail
  refine hix.mono ?_
  rintro e w2 ⟨rfl, rfl⟩
  clear hix
  go_wp2
  go_region
  go_wp2
  go_ret
  exact ⟨rfl, HL.out, Step.undrewN (n := 1) HS.out⟩
/-- 'm[k] = i', in the two operations that a tuple's store is made of. -/
theorem entry {D : DataW Unit} (h : w.ownsMap Try.prog 9 (plainElem Try.prog 3) bm ct D) (hct : ct < maxLen) (l : List Int) (hl : l.length ≤ 9223372036854775807) (i : Nat) (hi : i ≤ 64) :
    ∃ (v0 : Value) (st : Nat) (w1 w2 : World), (Instr.mapEntry 99 (.map (some bm)) (.string (strOfNums l))).run Try.prog w = .ok (.tuple #[v0, .int .i64 (st : Int)]) w1 ∧ w.grownBy w1 (some bm) ∧
      (Instr.entryStore 99 (.map (some bm)) (.int .i64 (st : Int)) (.int .i64 (i : Int))).run Try.prog w1 = .ok () w2 ∧ w2.ownsMap Try.prog 9 (plainElem Try.prog 3) bm (ct + 1) (D.put (klit l) (.lit (.int .i64 (i : Int)))) ∧ w.grownBy w2 (some bm) := by
  obtain ⟨w', hrun, hD', hg'⟩ := h.update law Try.underlying99 hct (klit_key l hl) (plainElem_int (a := (i : Int)) Try.underlying3 (Go.WalkArith.wf_i64 (by omega)))
  obtain ⟨es, clock, hb, F, hs, hD⟩ := h
  obtain ⟨v0, st, es1, clock1, h1, _, h2⟩ := Go.WideElems.entry_then_store (Go.WideMaps.string_law Try.underlying9) Try.underlying99 zeroE hb F (klit_key l hl)
  have hb1 : (Go.ChangeMaps.setBlock w bm (.map es1 clock1)).heap[bm]? = some (.map es1 clock1) := Go.ChangeMaps.heap_setBlock_same hb _
  obtain ⟨es', clock', h3, h4⟩ := h2 _ (.int .i64 (i : Int)) hb1
  rw [h4] at hrun
  obtain rfl : Go.ChangeMaps.setBlock w bm (.map es' clock') = w' := by simpa using hrun
  have g1 : w.grownBy (Go.ChangeMaps.setBlock w bm (.map es1 clock1)) (some bm) := ⟨rfl, rfl, rfl, by simp [Go.ChangeMaps.setBlock], fun i _ hi => Go.ChangeMaps.heap_setBlock_other hb _ (fun e => hi (by rw [e]))⟩
  refine ⟨v0, st, _, _, h1, g1, h3, owns_keep hD' ?_, ⟨rfl, rfl, rfl, by simp [Go.ChangeMaps.setBlock], fun i hi he => ?_⟩⟩
  · rw [Go.ChangeMaps.heap_setBlock_same hb1, Go.ChangeMaps.heap_setBlock_same hb]
  · rw [Go.ChangeMaps.heap_setBlock_other hb1 _ (fun e => he (by rw [e]))]
    exact g1.block i hi he
end
end Go.Proofs.Ytfbajampfiodeaa.Lru
