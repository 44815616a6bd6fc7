/- ring: what eight reservations leave, in plain words; an append of a number. -/
import Derived.Test.YtpjgaacdohiomaaRingF
namespace Go.Proofs.Ytpjgaacdohiomaa.RingG
open Go.RowKit Go.Proofs.Ytpjgaacdohiomaa.PMemCopies Go.Proofs.YtpjgaacdohiomaaW.PrintWords Go.Proofs.YtpjgaacdohiomaaW.PrintLast Go.Proofs.YtpjgaacdohiomaaW.PrintMore Go.Proofs.Ytpjgaacdohiomaa.Mw Go.Proofs.Ytpjgaacdohiomaa.Mem1 Go.Proofs.Ytpjgaacdohiomaa.Mem3 Go.Proofs.Ytpjgaacdohiomaa.Mem7 Go.Proofs.Ytpjgaacdohiomaa.MemB Go.Proofs.Ytpjgaacdohiomaa.MemC Go.Proofs.Ytpjgaacdohiomaa.MemQ Go.Proofs.Ytpjgaacdohiomaa.MemK Go.Proofs.Ytpjgaacdohiomaa.RingA Go.Proofs.Ytpjgaacdohiomaa.RingB Go.Proofs.Ytpjgaacdohiomaa.RingC Go.Proofs.Ytpjgaacdohiomaa.RingD Go.Proofs.Ytpjgaacdohiomaa.RingE Go.Proofs.Ytpjgaacdohiomaa.RingF
set_option linter.unusedVariables false
set_option linter.unusedSimpArgs false
theorem info64 : (Try.prog.info? 22).map (fun i => (i.zero, i.size, i.bytes)) = some (some (.int .u64 0), 1, 8) := by kernel_rfl
/-- What an append of a number leaves. -/
structure AppU (W W' : World) (sv : Value) (n : Nat) (vs : List Value) (v : Value) (bl' cap' : Nat) : Prop where
  own : W'.ownsRow 0 22 1 (.slice (some ⟨bl', 0, none⟩) (n + 1) cap') (n + 1) (vs ++ [v])
  grown : W.grownBy W' sv.ownBlock
  blk : some bl' = sv.ownBlock ∨ W.heap.size ≤ bl'
theorem wpList_u64 {ops : Array Oper} {o : Oper} {rest : List Oper} {a : Act} {W : World} {Q : Exit → Act → World → Prop} {sv v : Value} {n : Nat} {vs : List Value}
    (hown : W.ownsRow 0 22 1 sv n vs) (h1 : v.oneCell' = true) (hn : n ≤ 100000)
    (hg : o.guard = none) (s x : Operand) (hop : o.op = Op.call { callee := Callee.builtin Builtin.append, args := #[s, x], argTypes := #[65, 65] })
    (hs : a.eval s = sv) (hx : a.eval x = .slice (some ⟨W.heap.size, 0, none⟩) 1 1)
    (hK : ∀ bl' cap' W', Hid (AppU W W' sv n vs v bl' cap') → wpList Try.prog ops Q rest (a.put o.dst (.slice (some ⟨bl', 0, none⟩) (n + 1) cap')) W') :
    wpList Try.prog ops Q (o :: rest) a (W.alloc (.cells #[v] 22)) := by
  refine print_append_cells (P := Try.prog) (w0 := W) (W := W) (ys := [v]) 0 hg s x 65 22 _ 1 8 hop Try.underlying65 info64 rfl (by decide) (by decide) sv n vs hs hx rfl (by intro u hu; obtain rfl := List.mem_singleton.1 hu; exact h1) hown (Below.refl _ _) (Nat.zero_le _) (by omega) ?_
  intro v1 w1 ho1 hb1 hg1 hat
  rcases ho1.2 with ⟨_, h0⟩ | ⟨bl', cap', cur, rfl, _⟩
  · omega
  · refine hK bl' cap' w1 (Lib.hid ⟨ho1, hg1, ?_⟩)
    rcases hat with hat | ⟨b2, e2, h2⟩
    · exact .inl hat
    · exact .inr (by cases e2; exact h2)
/-- The ids of the first k places. -/
def idsR (k : Nat) : List Int := (List.range 8).map fun j => if j < k then (j : Int) + 1 else 0
theorem idsR_get (k j : Nat) (hj : j < 8) : (idsR k).getD j 0 = if j < k then (j : Int) + 1 else 0 := by
  unfold idsR
  rw [List.getD_eq_getElem?_getD, List.getElem?_map, List.getElem?_range hj]
  rfl
theorem idsR_set (k : Nat) (hk : k < 8) : (idsR k).set k ((k : Int) + 1) = idsR (k + 1) := by
  rcases (show k = 0 ∨ k = 1 ∨ k = 2 ∨ k = 3 ∨ k = 4 ∨ k = 5 ∨ k = 6 ∨ k = 7 by omega) with rfl | rfl | rfl | rfl | rfl | rfl | rfl | rfl <;> decide +kernel
theorem idsR_open (k : Nat) (hk : k ≤ 8) : (idsR k).countP (fun i => decide (0 < i)) = k := by
  rcases (show k = 0 ∨ k = 1 ∨ k = 2 ∨ k = 3 ∨ k = 4 ∨ k = 5 ∨ k = 6 ∨ k = 7 ∨ k = 8 by omega) with rfl | rfl | rfl | rfl | rfl | rfl | rfl | rfl | rfl <;> decide +kernel
theorem idsR_drop (k : Nat) (hk : k < 8) : ((idsR 8).set k 0).countP (fun i => decide (0 < i)) = 7 := by
  rcases (show k = 0 ∨ k = 1 ∨ k = 2 ∨ k = 3 ∨ k = 4 ∨ k = 5 ∨ k = 6 ∨ k = 7 by omega) with rfl | rfl | rfl | rfl | rfl | rfl | rfl | rfl <;> decide +kernel
/-- The regions of places. -/
def RowsR (rs : List Rg) (k : Nat) : Prop := rs.length = k ∧ ∀ j, j < k → ∃ r, rs[j]? = some r ∧ r.id = (j : Int) ∧ r.base = place j ∧ 1 ≤ r.bytes.length ∧ r.bytes.length ≤ 64
theorem not_busy {rs : List Rg} {k : Nat} {s : Int} (hs : 1 ≤ s ∧ s ≤ 64) (h : ∀ r ∈ rs, ∃ j, j ≠ k ∧ r.base = place j ∧ 1 ≤ r.bytes.length ∧ r.bytes.length ≤ 64) : rs.any (busyQ (place k) (place k + (s - 1))) = false := by
  rw [List.any_eq_false]
  intro r hr
  obtain ⟨j, hj, hb, h1, h2⟩ := h r hr
  unfold busyQ place at *
  rw [Bool.and_eq_true, decide_eq_true_eq, decide_eq_true_eq, hb]
  rcases Nat.lt_or_gt_of_ne hj with h | h
  · omega
  · omega
theorem add_fit {rs : List Rg} {nx s : Int} {k : Nat} (hk : k < 8) (hs : 1 ≤ s ∧ s ≤ 64) (hl : rs.length ≠ 4096) (h : ∀ r ∈ rs, ∃ j, j ≠ k ∧ r.base = place j ∧ 1 ≤ r.bytes.length ∧ r.bytes.length ≤ 64) :
    addQ rs nx (place k) s 3 = (nx, 0, rs ++ [newR nx (place k) 3 s.toNat], nx + 1) := by
  have ha : argOk (place k) s 3 := by unfold argOk place; omega
  unfold addQ
  rw [if_neg (by simpa using ha), if_neg (by rw [not_busy hs h]; decide), if_neg hl]
theorem RowsR.mem {rs : List Rg} {k : Nat} (h : RowsR rs k) : ∀ r ∈ rs, ∃ j, j < k ∧ r.id = (j : Int) ∧ r.base = place j ∧ 1 ≤ r.bytes.length ∧ r.bytes.length ≤ 64 := by
  intro r hr
  obtain ⟨j, hj, e⟩ := List.mem_iff_getElem.1 hr
  obtain ⟨r', e1, e2⟩ := h.2 j (by have := h.1; omega)
  have : r' = r := by rw [List.getElem?_eq_getElem hj, e] at e1; exact (Option.some.inj e1).symm
  subst this
  exact ⟨j, by have := h.1; omega, e2⟩
theorem RowsR.more {rs : List Rg} {k : Nat} (h : RowsR rs k) {s : Int} (hs : 1 ≤ s ∧ s ≤ 64) : RowsR (rs ++ [newR (k : Int) (place k) 3 s.toNat]) (k + 1) := by
  refine ⟨by rw [List.length_append, h.1]; rfl, fun j hj => ?_⟩
  by_cases hjk : j < k
  · obtain ⟨r, e1, e2⟩ := h.2 j hjk
    exact ⟨r, by rw [List.getElem?_append_left (by have := h.1; omega)]; exact e1, e2⟩
  · obtain rfl : j = k := by omega
    refine ⟨newR (j : Int) (place j) 3 s.toNat, by rw [List.getElem?_append_right (by have := h.1; omega), h.1, Nat.sub_self]; rfl, rfl, rfl, ?_, ?_⟩
    · simp only [newR, List.length_replicate]; omega
    · simp only [newR, List.length_replicate]; omega
theorem RowsR.drop {rs : List Rg} {k m : Nat} (h : RowsR rs k) (hm : m < k) : (killQ rs (m : Int)).2.length = k - 1 ∧ ∀ r ∈ (killQ rs (m : Int)).2, ∃ j, j ≠ m ∧ r.base = place j ∧ 1 ≤ r.bytes.length ∧ r.bytes.length ≤ 64 := by
  have hi : rs.findIdx (isIdQ (m : Int)) = m := by
    rw [List.findIdx_eq (by have := h.1; omega)]
    obtain ⟨r, e1, e2, _⟩ := h.2 m hm
    refine ⟨?_, fun j hj => ?_⟩
    · have := (List.getElem?_eq_some_iff.1 e1).2
      rw [this]; unfold isIdQ; rw [decide_eq_true_eq]; exact e2
    · obtain ⟨r', f1, f2, _⟩ := h.2 j (by omega)
      have := (List.getElem?_eq_some_iff.1 f1).2
      rw [this]; unfold isIdQ; rw [decide_eq_false_iff_not, f2]; omega
  have hk : (killQ rs (m : Int)).2 = rs.eraseIdx m := by
    obtain ⟨r, e1, e2, _⟩ := h.2 m hm
    unfold killQ
    split
    · rename_i hn
      unfold idQ at hn
      rw [List.find?_eq_none] at hn
      exact absurd (by unfold isIdQ; rw [decide_eq_true_eq]; exact e2) (hn r (List.mem_of_getElem? e1))
    · rw [hi]
  rw [hk]
  refine ⟨by rw [List.length_eraseIdx, h.1, if_pos hm], fun r hr => ?_⟩
  obtain ⟨j, hj, e⟩ := List.mem_iff_getElem?.1 hr |>.elim fun i hi => (⟨i, (List.getElem?_eq_some_iff.1 hi).1, hi⟩ : ∃ i, ∃ _ : i < (rs.eraseIdx m).length, (rs.eraseIdx m)[i]? = some r)
  rw [List.getElem?_eraseIdx] at e
  have hlt : (rs.eraseIdx m).length = k - 1 := by rw [List.length_eraseIdx, h.1, if_pos hm]
  split at e
  · obtain ⟨r', e1, e2, e3⟩ := h.2 j (by omega)
    rw [e] at e1; cases e1
    exact ⟨j, by omega, e3⟩
  · obtain ⟨r', e1, e2, e3⟩ := h.2 (j + 1) (by omega)
    rw [e] at e1; cases e1
    exact ⟨j + 1, by omega, e3⟩
/-- The places' slice. -/
def PlS (w wr : World) (F : Nat → Prop) (u : Value) (n : Nat) : Prop := wr.ownsRow 0 22 1 u n ((List.range n).map fun j => Value.int .u64 (place j)) ∧ ∀ b, u.ownBlock = some b → ¬ F b ∧ w.heap.size ≤ b ∧ b < wr.heap.size
theorem PlS.step {w wr w' : World} {F F' : Nat → Prop} {u : Value} {n : Nat} (h : PlS w wr F u n) (hS : Step wr w' F F') : PlS w w' F' u n :=
  ⟨own_move h.1 (fun b hb => hS.block b (h.2 b hb).2.2 (h.2 b hb).1), fun b hb => ⟨fun hf => (hS.foot b hf).elim (h.2 b hb).1 (fun h2 => by have := (h.2 b hb).2.2; omega), (h.2 b hb).2.1, Nat.lt_of_lt_of_le (h.2 b hb).2.2 hS.size⟩⟩
theorem PlS.at {w wr : World} {F : Nat → Prop} {u : Value} {n : Nat} (h : PlS w wr F u n) : ∃ so sc, u = .slice so n sc ∧ n ≤ sc ∧ ∀ j, j < n → ∃ bl, so = some ⟨bl, 0, none⟩ ∧ wr.cell? ⟨bl, j, none⟩ = some (.int .u64 (place j)) := by
  obtain ⟨h5, h6⟩ := h
  rcases h5.2 with ⟨rfl, h0⟩ | ⟨bl, cap, cur, rfl, _, hb, hc, _, _, ht⟩
  · exact ⟨none, 0, by rw [h0], by omega, fun j hj => by omega⟩
  · refine ⟨_, _, rfl, hc, fun j hj => ⟨bl, rfl, ?_⟩⟩
    rw [blk_cell hb, ← Array.getElem?_toList]
    have k1 : ((List.range n).map fun j => Value.int .u64 (place j))[j]? = some (.int .u64 (place j)) := by rw [List.getElem?_map, List.getElem?_range hj]; rfl
    rw [← ht, List.getElem?_take] at k1
    split at k1
    · exact k1
    · cases k1
/-- k records are open, n places are in the slice u. -/
def RoomS (w wr : World) (g gm : Nat) (u : Value) (k n : Nat) : Prop := ∃ F rs, RQ wr F g gm rs (k : Int) (idsR k) [] ∧ (∀ b, F b → w.heap.size ≤ b) ∧ Below w.heap.size w wr ∧ RowsR rs k ∧ wr.ownsRow 0 22 1 u n ((List.range n).map fun j => Value.int .u64 (place j)) ∧ ∀ b, u.ownBlock = some b → ¬ F b ∧ w.heap.size ≤ b ∧ b < wr.heap.size
section
variable {w wr : World} {g gm k n : Nat} {u : Value}
theorem room_open (h : RoomS w wr g gm u k n) (hk : k ≤ 8) : Calls Try.prog 33 #[.pointer (some ⟨g, 0, none⟩)] wr fun e w' => e = .returned (.int .i64 (k : Int)) ∧ wr = w' := by
  obtain ⟨F, rs, h1, _⟩ := h
  have := Open_ h1
  rw [idsR_open k hk] at this
  exact this
theorem room_reserve (h : RoomS w wr g gm u k n) (hk : k < 8) (s : Int) (hs : 1 ≤ s ∧ s ≤ 64) : Calls Try.prog 32 #[.pointer (some ⟨g, 0, none⟩), .int .u64 s] wr fun e w' =>
    e = .returned (.tuple #[.int .u64 (place k), .int .i64 0]) ∧ RoomS w w' g gm u (k + 1) n := by
  obtain ⟨F, rs, h1, h2, h3, h4, h5, h6⟩ := h
  refine (Reserve_go h1 (by omega) s hs).mono fun e w' hp => ?_
  have hadd : addQ rs (k : Int) (place k) s 3 = _ := add_fit hk hs (by have := h4.1; omega) (fun r hr => by
    obtain ⟨j, q1, q2, q3⟩ := h4.mem r hr
    exact ⟨j, by omega, q3⟩)
  obtain ⟨e1, F', hR, hS⟩ := (hp.2 k hk (by rw [idsR_get k k hk, if_neg (Nat.lt_irrefl k)]) (fun j hj => by rw [idsR_get k j (by omega), if_pos hj]; omega)).2 (by rw [hadd])
  rw [hadd] at hR
  refine ⟨e1, F', _, ?_, hS.low h3.size h2, hS.below h3 h2, h4.more hs, own_move h5 (fun b hb => hS.block b (h6 b hb).2.2 (h6 b hb).1), fun b hb => ?_⟩
  · rw [← idsR_set k hk]; exact hR
  · obtain ⟨q1, q2, q3⟩ := h6 b hb
    exact ⟨fun hf => (hS.foot b hf).elim q1 (fun h => by omega), q2, Nat.lt_of_lt_of_le q3 hS.size⟩
theorem rq_keep {w w' : World} {F : Nat → Prop} {rs : List Rg} {nx : Int} {ids : List Int} {out : List (List Int)} (h : RQ w F g gm rs nx ids out) (hk : ∀ b, F b → w'.heap[b]? = w.heap[b]?) (hs : w.heap.size ≤ w'.heap.size) : RQ w' F g gm rs nx ids out := by
  obtain ⟨⟨F1, Fo, sv, rfl, h1, h2, h3, h4, h5, h6, h7⟩, hl, hi⟩ := h
  obtain ⟨es, he, hM⟩ := h2
  exact ⟨⟨F1, Fo, sv, rfl, (hk g (.inl rfl)).trans h1, ⟨es, he, hM.keep (fun b hb => hk b (.inr (.inl hb))) hs⟩, h3.keep (fun b hb' => hk b (.inr (.inr hb'))) (fun _ h => h), h4, h5, h6, fun b hb' => Nat.lt_of_lt_of_le (h7 b hb') hs⟩, hl, hi⟩
theorem room_append {W' : World} {bl' cap' : Nat} (h : RoomS w wr g gm u k n) (hA : AppU wr W' u n ((List.range n).map fun j => Value.int .u64 (place j)) (.int .u64 (place n)) bl' cap') : RoomS w W' g gm (.slice (some ⟨bl', 0, none⟩) (n + 1 : Nat) cap') k (n + 1) := by
  obtain ⟨F, rs, h1, h2, h3, h4, h5, h6⟩ := h
  obtain ⟨cur, hbl⟩ := own_typed hA.own bl' rfl
  have hlt := h1.lt
  have hF : ∀ b, F b → W'.heap[b]? = wr.heap[b]? := fun b hf => hA.grown.block b (hlt b hf) (fun e => (h6 b e.symm).1 hf)
  refine ⟨F, rs, rq_keep h1 hF hA.grown.size, h2, ⟨hA.grown.os.trans h3.os, hA.grown.tape.trans h3.tape, hA.grown.output.trans h3.output, Nat.le_trans h3.size hA.grown.size, fun b hb => (hA.grown.block b (Nat.lt_of_lt_of_le hb h3.size) (fun e => by have := (h6 b e.symm).2.1; omega)).trans (h3.block b hb)⟩, h4, ?_, fun b hb => ?_⟩
  · rw [List.range_succ, List.map_append]; exact hA.own
  · obtain rfl : bl' = b := by simpa [Value.ownBlock] using hb
    refine ⟨?_, ?_, blk_lt hbl⟩
    · rcases hA.blk with h | h
      · exact (h6 bl' h.symm).1
      · intro hf; have := hlt bl' hf; omega
    · rcases hA.blk with h | h
      · exact (h6 bl' h.symm).2.1
      · have := h3.size; omega
theorem room_at (h : RoomS w wr g gm u k n) : ∃ so sc, u = .slice so n sc ∧ n ≤ sc ∧ ∀ j, j < n → ∃ bl, so = some ⟨bl, 0, none⟩ ∧ wr.cell? ⟨bl, j, none⟩ = some (.int .u64 (place j)) := by
  obtain ⟨F, rs, h1, h2, h3, h4, h5⟩ := h
  exact PlS.at h5
theorem room_full (h : RoomS w wr g gm u 8 n) (s : Int) (hs : 1 ≤ s ∧ s ≤ 64) : Calls Try.prog 32 #[.pointer (some ⟨g, 0, none⟩), .int .u64 s] wr fun e w' =>
    e = .returned (.tuple #[.int .u64 0, .int .i64 71]) ∧ wr = w' := by
  obtain ⟨F, rs, h1, h2, h3, h4, h5, h6⟩ := h
  exact (Reserve_go h1 (by omega) s hs).mono fun e w' hp => hp.1 (fun j hj => by rw [idsR_get 8 j hj, if_pos hj]; omega)
/-- One of the eight is ended again. -/
def RoomD (w wr : World) (g gm m : Nat) (u : Value) (n : Nat) : Prop := ∃ F rs, PlS w wr F u n ∧  RQ wr F g gm rs 8 ((idsR 8).set m 0) [] ∧ (∀ b, F b → w.heap.size ≤ b) ∧ Below w.heap.size w wr ∧ rs.length = 7 ∧ ∀ r ∈ rs, ∃ j, j ≠ m ∧ r.base = place j ∧ 1 ≤ r.bytes.length ∧ r.bytes.length ≤ 64
theorem room_discard (h : RoomS w wr g gm u 8 n) (m : Nat) (hm : m < 8) : Calls Try.prog 34 #[.pointer (some ⟨g, 0, none⟩), .int .u64 (place m)] wr fun e w' =>
    e = .returned (.int .i64 0) ∧ RoomD w w' g gm m u n := by
  obtain ⟨F, rs, h1, h2, h3, h4, h5, h6⟩ := h
  have hP : PlS w wr F u n := ⟨h5, h6⟩
  refine (Discard_go h1 (by omega) (place m)).mono fun e w' hp => ?_
  obtain ⟨F', e1, hR, hS⟩ := hp.2 m hm (by rw [idsR_get 8 m hm, if_pos hm]; omega) rfl
  rw [idsR_get 8 m hm, if_pos hm, Int.add_sub_cancel] at hR
  obtain ⟨q1, q2⟩ := h4.drop hm
  exact ⟨e1, F', _, hP.step hS, hR, hS.low h3.size h2, hS.below h3 h2, q1, q2⟩
/-- And reserved again. -/
def RoomE (w wr : World) (g gm m : Nat) (u : Value) (n : Nat) : Prop := ∃ F rs, PlS w wr F u n ∧  RQ wr F g gm rs 9 (((idsR 8).set m 0).set m 9) [] ∧ (∀ b, F b → w.heap.size ≤ b) ∧ Below w.heap.size w wr
theorem room_open2 {m : Nat} (h : RoomD w wr g gm m u n) (hm : m < 8) : Calls Try.prog 33 #[.pointer (some ⟨g, 0, none⟩)] wr fun e w' => e = .returned (.int .i64 7) ∧ wr = w' := by
  obtain ⟨F, rs, hP, h1, _⟩ := h
  have := Open_ h1
  rw [idsR_drop m hm] at this
  exact this
theorem idsD_get (m j : Nat) (hm : m < 8) (hj : j < 8) : ((idsR 8).set m 0).getD j 0 = if j = m then 0 else (j : Int) + 1 := by
  rw [List.getD_eq_getElem?_getD, List.getElem?_set]
  have hl : (idsR 8).length = 8 := rfl
  by_cases h : m = j
  · subst h; rw [if_pos rfl, if_pos (by omega), if_pos rfl]; rfl
  · rw [if_neg h, if_neg (fun e => h e.symm), ← List.getD_eq_getElem?_getD, idsR_get 8 j hj, if_pos hj]
theorem room_again {m : Nat} (h : RoomD w wr g gm m u n) (hm : m < 8) (s : Int) (hs : 1 ≤ s ∧ s ≤ 64) : Calls Try.prog 32 #[.pointer (some ⟨g, 0, none⟩), .int .u64 s] wr fun e w' =>
    e = .returned (.tuple #[.int .u64 (place m), .int .i64 0]) ∧ RoomE w w' g gm m u n := by
  obtain ⟨F, rs, hP, h1, h2, h3, h4, h5⟩ := h
  refine (Reserve_go h1 (by omega) s hs).mono fun e w' hp => ?_
  have hadd : addQ rs 8 (place m) s 3 = _ := add_fit hm hs (by omega) h5
  obtain ⟨e1, F', hR, hS⟩ := (hp.2 m hm (by rw [idsD_get m m hm hm, if_pos rfl]) (fun j hj => by rw [idsD_get m j hm (by omega), if_neg (by omega)]; omega)).2 (by rw [hadd])
  rw [hadd] at hR
  exact ⟨e1, F', _, hP.step hS, hR, hS.low h3.size h2, hS.below h3 h2⟩
theorem room_full2 {m : Nat} (h : RoomE w wr g gm m u n) (hm : m < 8) (s : Int) (hs : 1 ≤ s ∧ s ≤ 64) : Calls Try.prog 32 #[.pointer (some ⟨g, 0, none⟩), .int .u64 s] wr fun e w' =>
    e = .returned (.tuple #[.int .u64 0, .int .i64 71]) ∧ wr = w' := by
  obtain ⟨F, rs, hP, h1, _⟩ := h
  refine (Reserve_go h1 (by omega) s hs).mono fun e w' hp => hp.1 (fun j hj => ?_)
  rw [List.getD_eq_getElem?_getD, List.getElem?_set]
  have hl : ((idsR 8).set m 0).length = 8 := by rw [List.length_set]; rfl
  by_cases h : m = j
  · rw [if_pos h, if_pos (by omega)]; decide
  · rw [if_neg h, ← List.getD_eq_getElem?_getD, idsD_get m j hm hj, if_neg (fun e => h e.symm)]; omega
theorem room_at3 {m : Nat} (h : RoomE w wr g gm m u n) : ∃ so sc, u = .slice so n sc ∧ n ≤ sc ∧ ∀ j, j < n → ∃ bl, so = some ⟨bl, 0, none⟩ ∧ wr.cell? ⟨bl, j, none⟩ = some (.int .u64 (place j)) := by
  obtain ⟨F, rs, hP, h1, h2, h3⟩ := h
  exact PlS.at hP
theorem room_out {m : Nat} (h : RoomE w wr g gm m u n) : Calls Try.prog 35 #[.pointer (some ⟨g, 0, none⟩)] wr fun e w' => ∃ so sc, e = .returned (.slice so 0 sc) ∧ Below w.heap.size w w' := by
  obtain ⟨F, rs, hP, h1, h2, h3⟩ := h
  refine (Out_go h1 (by simp) (by simp)).mono fun e w' ⟨u, e1, hO⟩ => ?_
  obtain ⟨⟨so, sc, rfl⟩, hB, _⟩ := out_at hO
  exact ⟨so, sc, e1, h3.trans (hB.mono h3.size)⟩
end
end Go.Proofs.Ytpjgaacdohiomaa.RingG
