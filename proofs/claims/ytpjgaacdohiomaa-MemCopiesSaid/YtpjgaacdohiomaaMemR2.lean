/- The document's memory: what Add lays, in plain words. The document's memory: Add, walked by hand. -/
import Derived.Test.YtpjgaacdohiomaaMemR1
namespace Go.Proofs.Ytpjgaacdohiomaa.MemRN
open Go.RowKit Go.Proofs.Ytpjgaacdohiomaa.PMemCopies Go.Proofs.YtpjgaacdohiomaaW.PrintWords Go.Proofs.YtpjgaacdohiomaaW.PrintLast Go.Proofs.YtpjgaacdohiomaaW.PrintMore Go.Proofs.Ytpjgaacdohiomaa.Mw Go.Proofs.Ytpjgaacdohiomaa.Mem1 Go.Proofs.Ytpjgaacdohiomaa.Mem7 Go.Proofs.Ytpjgaacdohiomaa.MemB Go.Proofs.Ytpjgaacdohiomaa.MemQ Go.Proofs.Ytpjgaacdohiomaa.MemRA Go.Proofs.Ytpjgaacdohiomaa.MemRB Go.Proofs.Ytpjgaacdohiomaa.MemRC Go.Proofs.Ytpjgaacdohiomaa.MemRD
set_option linter.unusedVariables false
set_option linter.unusedSimpArgs false
def busyD (b s : Int) (r : DR) : Bool := (r.live && decide (r.base < b) && decide (b - r.base < r.bytes.length)) || (r.live && decide (b ≤ r.base) && decide (r.base - b < s))
def newD (b p : Int) (s : Nat) : DR := ⟨true, b, p, List.replicate s 0, List.replicate s (decide (p < 4))⟩
def addD (ds : List DR) (b s p : Int) : Int × Int × List DR :=
  if ¬ argOk b s p then (0, 2, ds) else if ds.any (busyD b s) = true then (0, 12, ds) else if 4096 ≤ countD ds then (0, 13, ds) else ((ds.length : Int), 0, ds ++ [newD b p s.toNat])
theorem any_dropD (p : DR → Bool) (ds : List DR) (k : Nat) (e : DR) (h : ds[k]? = some e) : (ds.drop k).any p = (p e || (ds.drop (k + 1)).any p) := by
  obtain ⟨hk, rfl⟩ := List.getElem?_eq_some_iff.1 h
  rw [List.drop_eq_getElem_cons hk, List.any_cons]
/-- A new region's blocks; so many of its marks are made. -/
structure NewD (w W : World) (rb gb gs sn : Nat) (b p : Int) (t : Nat) : Prop where
  below : Below w.heap.size w W
  ge : w.heap.size ≤ rb ∧ w.heap.size ≤ gb ∧ w.heap.size ≤ gs
  self : W.heap[rb]? = some (.cells #[.bool true, .int .u64 b, .int .i64 p, .slice (some ⟨gb, 0, none⟩) sn sn, .slice (some ⟨gs, 0, none⟩) sn sn] 59 (0, 0))
  row : Row W gb 5 ((List.replicate sn (0 : Int)).map (Value.int .u8))
  srow : Row W gs 4 ((List.replicate t (decide (p < 4)) ++ List.replicate (sn - t) false).map Value.bool)
section
variable {w W : World} {rb gb gs sn t : Nat} {b p : Int}
theorem heap_alloc_is {w : World} {o : Obj} {k : Nat} (hk : k = w.heap.size) : (w.alloc o).heap[k]? = some o := by subst hk; exact heap_alloc_new w o
theorem made5 (sn : Nat) : (madeCells #[Value.int .u8 0] sn).toList = (List.replicate sn (0 : Int)).map (Value.int .u8) := by rw [toList_madeCells_one, List.map_replicate]
theorem made4 (sn : Nat) (d : Bool) : (madeCells #[Value.bool false] sn).toList = (List.replicate 0 d ++ List.replicate (sn - 0) false).map Value.bool := by rw [toList_madeCells_one, List.replicate_zero, List.nil_append, Nat.sub_zero, List.map_replicate]
theorem new_of {w : World} {W : World} (hb : Below w.heap.size w W) (hr : w.heap.size ≤ rb ∧ w.heap.size ≤ gb ∧ w.heap.size ≤ gs)
    (h1 : W.heap[rb]? = some (.cells #[.bool true, .int .u64 b, .int .i64 p, .slice (some ⟨gb, 0, none⟩) sn sn, .slice (some ⟨gs, 0, none⟩) sn sn] 59 (0, 0)))
    (h2 : W.heap[gb]? = some (.cells (madeCells #[.int .u8 0] sn) 5 (0, 0))) (h3 : W.heap[gs]? = some (.cells (madeCells #[.bool false] sn) 4 (0, 0))) : NewD w W rb gb gs sn b p 0 :=
  ⟨hb, hr, h1, Row.of h2 (made5 sn), Row.of h3 (made4 sn _)⟩
theorem NewD.drewN (h : NewD w W rb gb gs sn b p t) (q : Nat) : NewD w (W.drewN q) rb gb gs sn b p t := ⟨pw_below_drewN h.below q, h.ge, h.self, h.row, h.srow⟩
theorem NewD.ne (h : NewD w W rb gb gs sn b p t) : rb ≠ gb ∧ rb ≠ gs ∧ gb ≠ gs := by
  obtain ⟨_, h1⟩ := h.row
  obtain ⟨_, h2⟩ := h.srow
  exact ⟨blk_ne h.self h1 (by decide), blk_ne h.self h2 (by decide), blk_ne h1 h2 (by decide)⟩
theorem NewD.cells (h : NewD w W rb gb gs sn b p t) : W.cell? ⟨rb, 0, none⟩ = some (.bool true) ∧ W.cell? ⟨rb, 1, none⟩ = some (.int .u64 b) ∧ W.cell? ⟨rb, 2, none⟩ = some (.int .i64 p) ∧ W.cell? ⟨rb, 3, none⟩ = some (.slice (some ⟨gb, 0, none⟩) sn sn) ∧ W.cell? ⟨rb, 4, none⟩ = some (.slice (some ⟨gs, 0, none⟩) sn sn) :=
  ⟨(blk_cell h.self 0).trans rfl, (blk_cell h.self 1).trans rfl, (blk_cell h.self 2).trans rfl, (blk_cell h.self 3).trans rfl, (blk_cell h.self 4).trans rfl⟩
theorem NewD.mark (h : NewD w W rb gb gs sn b p t) (ht : t < sn) : (∃ u, W.cell? ⟨gs, t, none⟩ = some u) ∧ W.frozen? ⟨gs, t, none⟩ = false ∧ NewD w (W.setCell ⟨gs, t, none⟩ (.bool (decide (p < 4)))) rb gb gs sn b p (t + 1) := by
  obtain ⟨n1, n2, n3⟩ := h.ne
  have hl : ((List.replicate t (decide (p < 4)) ++ List.replicate (sn - t) false).map Value.bool).length = sn := by simp; omega
  refine ⟨⟨_, h.srow.cell t (by rw [hl]; exact ht)⟩, h.srow.frozen t, ⟨below_set h.below h.ge.2.2, h.ge, ?_, ?_, ?_⟩⟩
  · exact (Below.heap_setCell W ⟨gs, t, none⟩ _ rb n2).trans h.self
  · exact h.row.keep (Below.heap_setCell W ⟨gs, t, none⟩ _ gb n3)
  · have := h.srow.set_ t (by rw [hl]; exact ht) (.bool (decide (p < 4)))
    rw [← List.map_set] at this
    have e1 : (List.replicate t (decide (p < 4)) ++ List.replicate (sn - t) false).set t (decide (p < 4)) = List.replicate (t + 1) (decide (p < 4)) ++ List.replicate (sn - (t + 1)) false := by
      rw [List.set_append_right _ _ (by rw [List.length_replicate]; exact Nat.le_refl _), List.length_replicate, Nat.sub_self, List.replicate_succ', List.append_assoc]
      congr 1
      rw [show sn - t = sn - (t + 1) + 1 by omega, List.replicate_succ]
      rfl
    rwa [e1] at this
end
/-- What the append of a region leaves. -/
structure AppR (W W' : World) (ao : Option Addr) (n cap : Nat) (ds : List DE) (e : DE) (bl' cap' : Nat) : Prop where
  own : W'.ownsRow 0 59 5 (.slice (some ⟨bl', 0, none⟩) (n + 1) cap') (n + 1) (ds.flatMap cells5 ++ cells5 e)
  grown : W.grownBy W' (Value.slice ao n cap).ownBlock
  blk : some bl' = (Value.slice ao n cap).ownBlock ∨ W.heap.size ≤ bl'
theorem info59 : (Try.prog.info? 59).map (fun i => (i.zero, i.size, i.bytes)) = some (some (.agg #[.bool false, .int .u64 0, .int .i64 0, .slice none 0 0, .slice none 0 0]), 5, 72) := by kernel_rfl
section
variable {w W : World} {F : Nat → Prop} {g : Nat} {ds : List DE} {rb sn : Nat} {b p : Int} {ao : Option Addr} {nn cap : Nat} {e : DE}
theorem own_slot (h : DIx w F g ds) (hn : nn = ds.length) (g0 : w.cell? ⟨g, 0, none⟩ = some (.slice ao nn cap)) : w.heap[g]? = some (.cells #[.slice ao nn cap] 52 (0, 0)) ∧ AllV w F (.slice ao nn cap) ds := by
  obtain ⟨v, h1, h2⟩ := h.self
  have e1 : w.cell? ⟨g, 0, none⟩ = some v := (blk_cell h1 0).trans rfl
  rw [g0] at e1
  obtain rfl := Option.some.inj e1
  exact ⟨h1, h2⟩
theorem step_addD {ops : Array Oper} {o : Oper} {a : Act} {K : Act → World → Prop} {Q : Exit → Act → World → Prop}
    (h : DIx w F g ds) (hn : nn = ds.length) (hl : nn ≤ 100000) (g0 : w.cell? ⟨g, 0, none⟩ = some (.slice ao nn cap)) (hM : NewD w W rb e.gb e.gs sn b p sn) (he : cells5 e = [.bool true, .int .u64 b, .int .i64 p, .slice (some ⟨e.gb, 0, none⟩) sn sn, .slice (some ⟨e.gs, 0, none⟩) sn sn])
    (hg : o.guard = none) (s x : Operand) (hop : o.op = Op.call { callee := Callee.builtin Builtin.append, args := #[s, x], argTypes := #[50, 50] })
    (hs : a.eval s = .slice ao nn cap) (hx : a.eval x = .slice (some ⟨W.heap.size, 0, none⟩) 1 1)
    (hK : ∀ bl' cap' W', Hid (AppR W W' ao nn cap ds e bl' cap') → W'.cell? ⟨g, 0, none⟩ = some (.slice ao nn cap) → W'.frozen? ⟨g, 0, none⟩ = false → K (a.put o.dst (.slice (some ⟨bl', 0, none⟩) (nn + 1) cap')) W') :
    if Region.wanted o (yielded ops a.tmps) = true then Oper.wp Try.prog o a (W.drew.alloc (.cells #[.bool true, .int .u64 b, .int .i64 p, .slice (some ⟨e.gb, 0, none⟩) sn sn, .slice (some ⟨e.gs, 0, none⟩) sn sn] 59)) K Q else K (a.put o.dst undef) (W.drew.alloc (.cells #[.bool true, .int .u64 b, .int .i64 p, .slice (some ⟨e.gb, 0, none⟩) sn sn, .slice (some ⟨e.gs, 0, none⟩) sn sn] 59)) := by
  obtain ⟨hself, hall⟩ := own_slot h hn g0
  have hown : W.drew.ownsRow 0 59 5 (.slice ao nn cap) nn (ds.flatMap cells5) := by
    have := hall.1
    rw [← hn] at this
    exact own_move this (fun k hk => hM.below.block k (h.lt k (hall.2 k hk)))
  have hgl := h.lt g h.inF
  have hgW := (hM.below.block g hgl).trans hself
  refine step_append_cells (P := Try.prog) (w0 := W.drew) (W := W.drew) (ys := [.bool true, .int .u64 b, .int .i64 p, .slice (some ⟨e.gb, 0, none⟩) sn sn, .slice (some ⟨e.gs, 0, none⟩) sn sn]) 0 (by simp [Region.wanted, hg]) s x 50 59 _ 5 72 hop Try.underlying50 info59 rfl (by decide) (by decide) (.slice ao nn cap) nn (ds.flatMap cells5) hs hx rfl (by intro u hu; simp only [List.mem_cons, List.not_mem_nil, or_false] at hu; rcases hu with rfl | rfl | rfl | rfl | rfl <;> rfl) hown (Below.refl _ _) (Nat.zero_le _) (by omega) ?_
  intro v1 w1 ho1 hb1 hg1 hat
  rcases ho1.2 with ⟨_, h0⟩ | ⟨bl', cap', cur, rfl, _⟩
  · omega
  · have hng : some g ≠ (Value.slice ao nn cap).ownBlock := fun e1 => by
      obtain ⟨_, ht⟩ := own_typed hown g e1.symm
      exact blk_ne hgW ht (by decide) rfl
    have hg' := (hg1.block g (blk_lt hgW) hng).trans hgW
    refine hK bl' cap' w1 (Lib.hid ⟨by rw [he]; exact ho1, ⟨hg1.os, hg1.tape, hg1.output, hg1.size, hg1.block⟩, ?_⟩) ((blk_cell hg' 0).trans rfl) (blk_frozen hg' 0)
    rcases hat with hat | ⟨b2, e2, h2⟩
    · exact .inl hat
    · exact .inr (by cases e2; exact h2)
theorem add_doneD (h : DIx w F g ds) (hn : nn = ds.length) (hl : nn < 100000) (g0 : w.cell? ⟨g, 0, none⟩ = some (.slice ao nn cap)) (hM : NewD w W rb e.gb e.gs sn b p sn) (hr : e.r = newD b p sn) (hcb : e.cb = sn ∧ e.cs = sn) (hsn : 0 < sn ∧ sn ≤ 65536) (hp : 0 ≤ p ∧ p ≤ 7) (hb : 0 ≤ b ∧ b + sn ≤ 18446744073709551616)
    {W' : World} {bl' cap' : Nat} (hA : AppR W W' ao nn cap ds e bl' cap') :
    ∃ F', DIx (W'.setCell ⟨g, 0, none⟩ (.slice (some ⟨bl', 0, none⟩) (nn + 1 : Nat) cap')) F' g (ds ++ [e]) ∧ Step w (W'.setCell ⟨g, 0, none⟩ (.slice (some ⟨bl', 0, none⟩) (nn + 1 : Nat) cap')) F F' := by
  obtain ⟨hself, hall⟩ := own_slot h hn g0
  have hgl := h.lt g h.inF
  have hgW := (hM.below.block g hgl).trans hself
  have hown : W.ownsRow 0 59 5 (.slice ao nn cap) nn (ds.flatMap cells5) := by
    have := hall.1
    rw [← hn] at this
    exact own_move this (fun k hk => hM.below.block k (h.lt k (hall.2 k hk)))
  -- what is not the slice's old block stays
  have hkW : ∀ k, k < W.heap.size → some k ≠ (Value.slice ao nn cap).ownBlock → k ≠ g → (W'.setCell ⟨g, 0, none⟩ (.slice (some ⟨bl', 0, none⟩) (nn + 1 : Nat) cap')).heap[k]? = W.heap[k]? := fun k h1 h2 h3 => (Below.heap_setCell W' ⟨g, 0, none⟩ _ k h3).trans (hA.grown.block k h1 h2)
  have hng : some g ≠ (Value.slice ao nn cap).ownBlock := fun e1 => by
    obtain ⟨_, ht⟩ := own_typed hown g e1.symm
    exact blk_ne hgW ht (by decide) rfl
  have hg' := (hA.grown.block g (blk_lt hgW) hng).trans hgW
  have hgg := MemB.heap_setCell_at (i := 0) (v := .slice (some ⟨bl', 0, none⟩) (nn + 1 : Nat) cap') hg'
  obtain ⟨cur', hbl'⟩ := own_typed hA.own bl' rfl
  have hne : bl' ≠ g := blk_ne hbl' hg' (by decide)
  have hbF : ∀ k, (Value.slice ao nn cap).ownBlock = some k → F k := hall.2
  have hsz : (W'.setCell ⟨g, 0, none⟩ (.slice (some ⟨bl', 0, none⟩) (nn + 1 : Nat) cap')).heap.size = W'.heap.size := by simp [World.setCell]
  have s1 := hM.below.size
  have s2 := hA.grown.size
  have hold : ∀ k, k < w.heap.size → some k ≠ (Value.slice ao nn cap).ownBlock → k ≠ g → (W'.setCell ⟨g, 0, none⟩ (.slice (some ⟨bl', 0, none⟩) (nn + 1 : Nat) cap')).heap[k]? = w.heap[k]? := fun k h1 h2 h3 => (hkW k (by omega) h2 h3).trans (hM.below.block k h1)
  have hnew : ∀ k t cs, W.heap[k]? = some (Obj.cells cs t (0, 0)) → t ≠ 59 → t ≠ 52 → (W'.setCell ⟨g, 0, none⟩ (.slice (some ⟨bl', 0, none⟩) (nn + 1 : Nat) cap')).heap[k]? = W.heap[k]? := fun k t cs hk h1 h2 => by
    refine hkW k (blk_lt hk) (fun e1 => ?_) (blk_ne hk hgW h2)
    obtain ⟨_, ht⟩ := own_typed hown k e1.symm
    exact blk_ne hk ht h1 rfl
  refine ⟨fun b => F b ∨ b = e.gb ∨ b = e.gs ∨ b = bl', ⟨⟨_, hgg, ?_, ?_⟩, ?_, ?_, .inl h.inF, ?_, by rw [List.length_append, ← hn]; simp; omega⟩, ?_⟩
  · rw [List.length_append, ← hn, List.flatMap_append]
    have : ([e] : List DE).flatMap cells5 = cells5 e := by simp
    rw [this]
    refine own_move hA.own (fun k hk => ?_)
    cases hk
    exact Below.heap_setCell W' ⟨g, 0, none⟩ _ bl' hne
  · intro k hk
    cases hk
    exact .inr (.inr (.inr rfl))
  · intro i e' hi
    by_cases hl2 : i < ds.length
    · rw [List.getElem?_append_left hl2] at hi
      have hR := h.regs i e' hi
      obtain ⟨⟨_, t1⟩, ⟨_, t2⟩⟩ := hR.typ
      have k1 := hM.below.block _ (blk_lt t1)
      have k2 := hM.below.block _ (blk_lt t2)
      exact ⟨hR.row.keep ((hnew _ 5 _ (k1.trans t1) (by decide) (by decide)).trans k1), hR.srow.keep ((hnew _ 4 _ (k2.trans t2) (by decide) (by decide)).trans k2), ⟨.inl hR.inF.1, .inl hR.inF.2⟩, hR.caps, hR.ok⟩
    · have := (List.getElem?_eq_some_iff.1 hi).1
      rw [List.length_append, List.length_singleton] at this
      obtain rfl : i = ds.length := by omega
      rw [List.getElem?_append_right (Nat.le_refl _), Nat.sub_self] at hi
      obtain rfl : e = e' := by simpa using hi
      obtain ⟨_, r1⟩ := hM.row
      obtain ⟨_, r2⟩ := hM.srow
      have hbl : e.r.bytes = List.replicate sn 0 := by rw [hr]; rfl
      have hsl : e.r.set = List.replicate sn (decide (p < 4)) := by rw [hr]; rfl
      refine ⟨?_, ?_, ⟨.inr (.inl rfl), .inr (.inr (.inl rfl))⟩, by rw [hbl, List.length_replicate, hcb.1, hcb.2]; exact ⟨Nat.le_refl _, Nat.le_refl _⟩, ⟨by rw [hbl, List.length_replicate]; exact hsn, by rw [hbl, hsl, List.length_replicate, List.length_replicate], by rw [hbl, List.length_replicate, hr]; exact hb, by rw [hr]; exact hp, by rw [hbl]; intro x hx; have := List.eq_of_mem_replicate hx; omega⟩⟩
      · rw [hbl]; exact hM.row.keep (hnew _ 5 _ r1 (by decide) (by decide))
      · have := hM.srow.keep (hnew _ 4 _ r2 (by decide) (by decide))
        rw [Nat.sub_self, List.replicate_zero, List.append_nil] at this
        rw [hsl]; exact this
  · have lowE : ∀ (i : Nat) (e' : DE), ds[i]? = some e' → e'.gb < w.heap.size ∧ e'.gs < w.heap.size := fun i e' hi => ⟨h.lt _ (h.regs i e' hi).inF.1, h.lt _ (h.regs i e' hi).inF.2⟩
    have get : ∀ (i : Nat) (e' : DE), (ds ++ [e])[i]? = some e' → (i < ds.length ∧ ds[i]? = some e') ∨ (i = ds.length ∧ e' = e) := fun i e' hi => by
      by_cases hl2 : i < ds.length
      · rw [List.getElem?_append_left hl2] at hi; exact .inl ⟨hl2, hi⟩
      · have := (List.getElem?_eq_some_iff.1 hi).1
        rw [List.length_append, List.length_singleton] at this
        obtain rfl : i = ds.length := by omega
        rw [List.getElem?_append_right (Nat.le_refl _), Nat.sub_self] at hi
        exact .inr ⟨rfl, by simpa using hi.symm⟩
    obtain ⟨-, ge1, ge2⟩ := hM.ge
    intro i j e1 e2 h1 h2 hij
    rcases get i e1 h1 with ⟨a1, b1⟩ | ⟨a1, rfl⟩ <;> rcases get j e2 h2 with ⟨a2, b2⟩ | ⟨a2, rfl⟩
    · exact h.apart i j e1 e2 b1 b2 hij
    · obtain ⟨l1, l2⟩ := lowE i e1 b1; exact ⟨by omega, by omega⟩
    · obtain ⟨l1, l2⟩ := lowE j e2 b2; exact ⟨by omega, by omega⟩
    · omega
  · intro k hk
    rw [hsz]
    obtain ⟨_, r1⟩ := hM.row
    obtain ⟨_, r2⟩ := hM.srow
    rcases hk with hk | rfl | rfl | rfl
    · have := h.lt k hk; omega
    · have := blk_lt r1; omega
    · have := blk_lt r2; omega
    · exact blk_lt hbl'
  · refine ⟨hA.grown.os.trans hM.below.os, hA.grown.tape.trans hM.below.tape, hA.grown.output.trans hM.below.output, by rw [hsz]; omega, fun k hk hF => hold k hk (fun e1 => hF (hbF k e1.symm)) (fun e1 => hF (e1 ▸ h.inF)), fun k hk => ?_⟩
    rcases hk with hk | rfl | rfl | rfl
    · exact .inl hk
    · exact .inr hM.ge.2.1
    · exact .inr hM.ge.2.2
    · rcases hA.blk with hk | hk
      · exact .inl (hbF _ hk.symm)
      · exact .inr (by omega)
end
end Go.Proofs.Ytpjgaacdohiomaa.MemRN
namespace Go.Proofs.Ytpjgaacdohiomaa.MemRF
open Go.RowKit Go.Proofs.Ytpjgaacdohiomaa.PMemCopies Go.Proofs.YtpjgaacdohiomaaW.PrintWords Go.Proofs.YtpjgaacdohiomaaW.PrintLast Go.Proofs.YtpjgaacdohiomaaW.PrintMore Go.Proofs.Ytpjgaacdohiomaa.Mw Go.Proofs.Ytpjgaacdohiomaa.Mem1 Go.Proofs.Ytpjgaacdohiomaa.Mem7 Go.Proofs.Ytpjgaacdohiomaa.MemB Go.Proofs.Ytpjgaacdohiomaa.MemQ Go.Proofs.Ytpjgaacdohiomaa.MemRA Go.Proofs.Ytpjgaacdohiomaa.MemRB Go.Proofs.Ytpjgaacdohiomaa.MemRC Go.Proofs.Ytpjgaacdohiomaa.MemRD Go.Proofs.Ytpjgaacdohiomaa.MemRN
set_option linter.unusedVariables false
set_option linter.unusedSimpArgs false
theorem RAdd_arg (g : Nat) (b s p : Int) (w : World) (hb : 0 ≤ b ∧ b < 18446744073709551616) (hs : -9223372036854775808 ≤ s ∧ s < 9223372036854775808) (h : ¬ argOk b s p) :
    Calls Try.prog 36 #[.pointer (some ⟨g, 0, none⟩), .int .u64 b, .int .i64 s, .int .i64 p] w fun e w' => e = .returned (.tuple #[.int .i64 0, .int .i64 2]) ∧ w = w' := by
  have H := Lib.hid h
  clear h
  by_cases c1 : s < 1
  · go_enter Try.func36, Try.ntmps36
    go_wp2
    go_ret2
    exact ⟨rfl, rfl⟩
  by_cases c2 : s > 65536
  · go_enter Try.func36, Try.ntmps36
    go_wp2
    go_ret2
    exact ⟨rfl, rfl⟩
  by_cases c3 : p < 0
  · go_enter Try.func36, Try.ntmps36
    go_wp2
    go_ret2
    exact ⟨rfl, rfl⟩
  by_cases c4 : p > 7
  · go_enter Try.func36, Try.ntmps36
    go_wp2
    go_ret2
    exact ⟨rfl, rfl⟩
  have hw2 : IntKind.u64.wrap s = s := by rw [IntKind.wrap_u64]; omega
  have hw3 : IntKind.u64.wrap (18446744073709551615 - s) = 18446744073709551615 - s := by rw [IntKind.wrap_u64]; omega
  have hw4 : IntKind.u64.wrap (18446744073709551615 - s + 1) = 18446744073709551615 - s + 1 := by rw [IntKind.wrap_u64]; omega
  have c5 : b > 18446744073709551615 - s + 1 := by have := H.out; unfold argOk at this; omega
  go_enter Try.func36, Try.ntmps36
  go_wp2
  go_ret2
  exact ⟨rfl, rfl⟩
theorem new_abr (w1 : World) (sn : Nat) (b p : Int) : NewD w1 (((w1.alloc (Obj.cells (madeCells #[Value.int IntKind.u8 0] sn) 5)).alloc (Obj.cells (madeCells #[Value.bool false] sn) 4)).alloc (Obj.cells #[.bool true, .int .u64 b, .int .i64 p, .slice (some ⟨w1.heap.size, 0, none⟩) sn sn, .slice (some ⟨w1.heap.size + 1, 0, none⟩) sn sn] 59)) (w1.heap.size + 1 + 1) (w1.heap.size) (w1.heap.size + 1) sn b p 0 :=
  new_of (below_alloc (below_alloc (below_alloc (Below.refl _ _) _) _) _) ⟨by omega, by omega, by omega⟩ (heap_alloc_is (by simp)) (MemB.heap_alloc_old (MemB.heap_alloc_old (heap_alloc_is rfl))) (MemB.heap_alloc_old (heap_alloc_is (by simp))) 
theorem new_arb (w1 : World) (sn : Nat) (b p : Int) : NewD w1 (((w1.alloc (Obj.cells (madeCells #[Value.int IntKind.u8 0] sn) 5)).alloc (Obj.cells #[.bool true, .int .u64 b, .int .i64 p, .slice (some ⟨w1.heap.size, 0, none⟩) sn sn, .slice (some ⟨w1.heap.size + 1 + 1, 0, none⟩) sn sn] 59)).alloc (Obj.cells (madeCells #[Value.bool false] sn) 4)) (w1.heap.size + 1) (w1.heap.size) (w1.heap.size + 1 + 1) sn b p 0 :=
  new_of (below_alloc (below_alloc (below_alloc (Below.refl _ _) _) _) _) ⟨by omega, by omega, by omega⟩ (MemB.heap_alloc_old (heap_alloc_is (by simp))) (MemB.heap_alloc_old (MemB.heap_alloc_old (heap_alloc_is rfl))) (heap_alloc_is (by simp)) 
theorem new_bar (w1 : World) (sn : Nat) (b p : Int) : NewD w1 (((w1.alloc (Obj.cells (madeCells #[Value.bool false] sn) 4)).alloc (Obj.cells (madeCells #[Value.int IntKind.u8 0] sn) 5)).alloc (Obj.cells #[.bool true, .int .u64 b, .int .i64 p, .slice (some ⟨w1.heap.size + 1, 0, none⟩) sn sn, .slice (some ⟨w1.heap.size, 0, none⟩) sn sn] 59)) (w1.heap.size + 1 + 1) (w1.heap.size + 1) (w1.heap.size) sn b p 0 :=
  new_of (below_alloc (below_alloc (below_alloc (Below.refl _ _) _) _) _) ⟨by omega, by omega, by omega⟩ (heap_alloc_is (by simp)) (MemB.heap_alloc_old (heap_alloc_is (by simp))) (MemB.heap_alloc_old (MemB.heap_alloc_old (heap_alloc_is rfl))) 
theorem new_bra (w1 : World) (sn : Nat) (b p : Int) : NewD w1 (((w1.alloc (Obj.cells (madeCells #[Value.bool false] sn) 4)).alloc (Obj.cells #[.bool true, .int .u64 b, .int .i64 p, .slice (some ⟨w1.heap.size + 1 + 1, 0, none⟩) sn sn, .slice (some ⟨w1.heap.size, 0, none⟩) sn sn] 59)).alloc (Obj.cells (madeCells #[Value.int IntKind.u8 0] sn) 5)) (w1.heap.size + 1) (w1.heap.size + 1 + 1) (w1.heap.size) sn b p 0 :=
  new_of (below_alloc (below_alloc (below_alloc (Below.refl _ _) _) _) _) ⟨by omega, by omega, by omega⟩ (MemB.heap_alloc_old (heap_alloc_is (by simp))) (heap_alloc_is (by simp)) (MemB.heap_alloc_old (MemB.heap_alloc_old (heap_alloc_is rfl))) 
theorem new_rab (w1 : World) (sn : Nat) (b p : Int) : NewD w1 (((w1.alloc (Obj.cells #[.bool true, .int .u64 b, .int .i64 p, .slice (some ⟨w1.heap.size + 1, 0, none⟩) sn sn, .slice (some ⟨w1.heap.size + 1 + 1, 0, none⟩) sn sn] 59)).alloc (Obj.cells (madeCells #[Value.int IntKind.u8 0] sn) 5)).alloc (Obj.cells (madeCells #[Value.bool false] sn) 4)) (w1.heap.size) (w1.heap.size + 1) (w1.heap.size + 1 + 1) sn b p 0 :=
  new_of (below_alloc (below_alloc (below_alloc (Below.refl _ _) _) _) _) ⟨by omega, by omega, by omega⟩ (MemB.heap_alloc_old (MemB.heap_alloc_old (heap_alloc_is rfl))) (MemB.heap_alloc_old (heap_alloc_is (by simp))) (heap_alloc_is (by simp)) 
theorem new_rba (w1 : World) (sn : Nat) (b p : Int) : NewD w1 (((w1.alloc (Obj.cells #[.bool true, .int .u64 b, .int .i64 p, .slice (some ⟨w1.heap.size + 1 + 1, 0, none⟩) sn sn, .slice (some ⟨w1.heap.size + 1, 0, none⟩) sn sn] 59)).alloc (Obj.cells (madeCells #[Value.bool false] sn) 4)).alloc (Obj.cells (madeCells #[Value.int IntKind.u8 0] sn) 5)) (w1.heap.size) (w1.heap.size + 1 + 1) (w1.heap.size + 1) sn b p 0 :=
  new_of (below_alloc (below_alloc (below_alloc (Below.refl _ _) _) _) _) ⟨by omega, by omega, by omega⟩ (MemB.heap_alloc_old (MemB.heap_alloc_old (heap_alloc_is rfl))) (heap_alloc_is (by simp)) (MemB.heap_alloc_old (heap_alloc_is (by simp))) 
theorem mark_facts {t sn : Nat} {K : Int} (hK : K = (t : Int)) (ht : t < sn) (hl : sn ≤ 65536) : 0 ≤ K ∧ K < (sn : Int) ∧ K.toNat = t ∧ wrap64 (K + 1) = K + 1 ∧ K + 1 = ((t + 1 : Nat) : Int) := by
  refine ⟨by omega, by omega, by omega, ?_, by omega⟩
  unfold wrap64
  omega
section
variable {w : World} {F : Nat → Prop} {g : Nat} {ds : List DE}
set_option maxRecDepth 100000 in
set_option maxHeartbeats 4000000 in
theorem RAdd_go (h : DIx w F g ds) (hlim : ds.length < 99999) (b s p : Int) (hb : 0 ≤ b ∧ b < 18446744073709551616) (ha : argOk b s p) :
    Calls Try.prog 36 #[.pointer (some ⟨g, 0, none⟩), .int .u64 b, .int .i64 s, .int .i64 p] w fun e w' =>
      ((ds.map (·.r)).any (busyD b s) = true → e = .returned (.tuple #[.int .i64 0, .int .i64 12]) ∧ Below w.heap.size w w') ∧
      ((ds.map (·.r)).any (busyD b s) = false → 4096 ≤ countD (ds.map (·.r)) → e = .returned (.tuple #[.int .i64 0, .int .i64 13]) ∧ Below w.heap.size w w') ∧
      ((ds.map (·.r)).any (busyD b s) = false → countD (ds.map (·.r)) < 4096 → e = .returned (.tuple #[.int .i64 (ds.length : Int), .int .i64 0]) ∧ ∃ F' en, en.r = newD b p s.toNat ∧ DIx w' F' g (ds ++ [en]) ∧ Step w w' F F') := by
  obtain ⟨ao, bl, cap, g0, hc, hcm, hA⟩ := h.at_
  have hlen := h.len
  have HLIM := Lib.hid hlim
  have HA := Lib.hid hA
  have H := Lib.hid h
  have HAR := Lib.hid ha
  have HBB := Lib.hid hb
  obtain ⟨sn, hs⟩ := Int.eq_ofNat_of_zero_le (show 0 ≤ s by have := ha.1; omega)
  have hsn : 0 < sn ∧ sn ≤ 65536 := by have := ha.1; have := ha.2.1; omega
  have hm1 : ∀ W, (Instr.makeSlice 36 (.int .i64 s) (.int .i64 s)).run Try.prog W = .ok (.slice (some ⟨W.heap.size, 0, none⟩) sn sn) (W.alloc (.cells (madeCells #[.int .u8 0] sn) 5)) := by
    obtain ⟨i1, hi1, hz1, hs1, hb1⟩ := info_parts info5
    intro W
    have := run_makeSlice (P := Try.prog) W 36 5 i1 (.int .u8 0) Try.underlying36 hi1 hz1 .i64 .i64 sn sn (by omega) (by omega) (by rw [hs1]; omega) (by rw [hb1]; omega) (by omega)
    rw [hs1, Int.toNat_natCast, Nat.mul_one, ← hs] at this
    exact this
  have hm2 : ∀ W, (Instr.makeSlice 37 (.int .i64 s) (.int .i64 s)).run Try.prog W = .ok (.slice (some ⟨W.heap.size, 0, none⟩) sn sn) (W.alloc (.cells (madeCells #[.bool false] sn) 4)) := by
    obtain ⟨i1, hi1, hz1, hs1, hb1⟩ := info_parts (P := Try.prog) (e := 4) (z := .bool false) (size := 1) (bytes := 1) (by kernel_rfl)
    intro W
    have := run_makeSlice (P := Try.prog) W 37 4 i1 (.bool false) Try.underlying37 hi1 hz1 .i64 .i64 sn sn (by omega) (by omega) (by rw [hs1]; omega) (by rw [hb1]; omega) (by omega)
    rw [hs1, Int.toNat_natCast, Nat.mul_one, ← hs] at this
    exact this
  have HSN := Lib.hid (And.intro hs hsn)
  clear hs hsn
  have c1 : ¬ s < 1 := by have := ha.1; omega
  have c2 : ¬ s > 65536 := by have := ha.2.1; omega
  have c3 : ¬ p < 0 := by have := ha.2.2.1; omega
  have c4 : ¬ p > 7 := by have := ha.2.2.2.1; omega
  have hbs := ha.2.2.2.2
  have hw2 : IntKind.u64.wrap s = s := by rw [IntKind.wrap_u64]; omega
  have hw3 : IntKind.u64.wrap (18446744073709551615 - s) = 18446744073709551615 - s := by rw [IntKind.wrap_u64]; omega
  have hw4 : IntKind.u64.wrap (18446744073709551615 - s + 1) = 18446744073709551615 - s + 1 := by rw [IntKind.wrap_u64]; omega
  have c5 : ¬ b > 18446744073709551615 - s + 1 := by omega
  obtain ⟨nn, hnn⟩ : ∃ nn, nn = ds.length := ⟨_, rfl⟩
  have HN := Lib.hid hnn
  rw [← hnn] at g0 hc hlen
  obtain ⟨Y, hY⟩ : ∃ Y : Bool, Y = (ds.map (·.r)).any (busyD b s) := ⟨_, rfl⟩
  obtain ⟨C, hC⟩ : ∃ C : Int, C = (countD (ds.map (·.r)) : Int) := ⟨_, rfl⟩
  have hP : ∀ (e : Ending) (w' : World), ((Y = true → e = .returned (.tuple #[.int .i64 0, .int .i64 12]) ∧ Below w.heap.size w w') ∧ (Y = false → 4096 ≤ C → e = .returned (.tuple #[.int .i64 0, .int .i64 13]) ∧ Below w.heap.size w w') ∧ (Y = false → C < 4096 → e = .returned (.tuple #[.int .i64 (nn : Int), .int .i64 0]) ∧ ∃ F' en, en.r = newD b p s.toNat ∧ DIx w' F' g (ds ++ [en]) ∧ Step w w' F F')) →
      (((ds.map (·.r)).any (busyD b s) = true → e = .returned (.tuple #[.int .i64 0, .int .i64 12]) ∧ Below w.heap.size w w') ∧ ((ds.map (·.r)).any (busyD b s) = false → 4096 ≤ countD (ds.map (·.r)) → e = .returned (.tuple #[.int .i64 0, .int .i64 13]) ∧ Below w.heap.size w w') ∧ ((ds.map (·.r)).any (busyD b s) = false → countD (ds.map (·.r)) < 4096 → e = .returned (.tuple #[.int .i64 (ds.length : Int), .int .i64 0]) ∧ ∃ F' en, en.r = newD b p s.toNat ∧ DIx w' F' g (ds ++ [en]) ∧ Step w w' F F')) := by
    intro e w' ⟨h1, h2, h3⟩
    rw [← hY, ← hnn]
    exact ⟨h1, fun a1 a2 => h2 a1 (by omega), fun a1 a2 => h3 a1 (by omega)⟩
  refine Calls.mono ?_ hP
  clear hP
  have HY := Lib.hid hY
  have HCC := Lib.hid hC
  clear h hA ha hb hnn hbs hY hC hlim
  go_enter Try.func36, Try.ntmps36
  go_wp2
  go_loopw [39] (fun i wr => ∃ k : Nat, k ≤ nn ∧ i = .int .i64 (k : Int) ∧ Hid (Y = ((ds.map (·.r)).drop k).any (busyD b s)) ∧ Hid (Below w.heap.size w wr)) (fun i _ => nn - (intOf i).toNat)
  case atStart => exact ⟨0, Nat.zero_le _, rfl, Lib.hid HY.out, Lib.hid (Below.refl _ _)⟩
  case round =>
    obtain ⟨k, hk, rfl, HS, HB⟩ := hrel
    by_cases hlt : k < nn
    · obtain ⟨e, hi⟩ : ∃ e, ds[k]? = some e := ⟨_, List.getElem?_eq_getElem (by rw [← HN.out]; exact hlt)⟩
      obtain ⟨rfl, r0, r1, r2, r3, r4, -⟩ := HA.out k e hi
      have hir : (ds.map (·.r))[k]? = some e.r := by rw [List.getElem?_map, hi]; rfl
      have r0 := Mem3.old HB.out r0
      have r1 := Mem3.old HB.out r1
      have r2 := Mem3.old HB.out r2
      have r3 := Mem3.old HB.out r3
      have r4 := Mem3.old HB.out r4
      have hok := (H.out.regs k e hi).ok
      have hlen2 := hok.len
      have hbase := hok.base
      have hfd := any_dropD (busyD b s) _ k e.r hir
      have hmiss : busyD b s e.r = false → (∃ k' : Nat, k' ≤ nn ∧ Value.int .i64 ((k : Int) + 1) = .int .i64 (k' : Int) ∧ Hid (Y = ((ds.map (·.r)).drop k').any (busyD b s)) ∧ Hid (Below w.heap.size w (wr.alloc (.cells #[.bool e.r.live, .int .u64 e.r.base, .int .i64 e.r.perm, .slice (some ⟨e.gb, 0, none⟩) e.r.bytes.length e.cb, .slice (some ⟨e.gs, 0, none⟩) e.r.bytes.length e.cs] 59)))) ∧ nn - (intOf (.int .i64 ((k : Int) + 1))).toNat < nn - (intOf (.int .i64 (k : Int))).toNat :=
        fun hm => ⟨⟨k + 1, by omega, by go_num, Lib.hid (by rw [HS.out, hfd, hm, Bool.false_or]), Lib.hid (below_alloc HB.out _)⟩, by simp [intOf]; omega⟩
      have hhit : busyD b s e.r = true → Y = true := fun hm => by rw [HS.out, hfd, hm, Bool.true_or]
      have HM := Lib.hid hmiss
      have HH := Lib.hid hhit
      have hwl : IntKind.u64.wrap (e.r.bytes.length : Int) = (e.r.bytes.length : Int) := by rw [IntKind.wrap_u64]; omega
      have HOK := Lib.hid (And.intro hlen2 hbase)
      clear hmiss hhit hir hi hok hfd HS
      cases hl : e.r.live with
      | false =>
        rw [hl] at r0 HM
        have HM2 := Lib.hid (HM.out (by unfold busyD; rw [hl]; rfl))
        clear HM HH hl
        go_wp2
        case roundEnd => exact HM2.out
      | true =>
        rw [hl] at r0 HM
        by_cases d1 : e.r.base < b
        · have hw5 : IntKind.u64.wrap (b - e.r.base) = b - e.r.base := by have := HBB.out; rw [IntKind.wrap_u64]; omega
          have d2 : ¬ b ≤ e.r.base := by omega
          by_cases d3 : b - e.r.base < (e.r.bytes.length : Int)
          · have HT := Lib.hid (HH.out (by unfold busyD; rw [hl, decide_eq_true d1, decide_eq_true d3]; rfl))
            clear HM HH hl
            go_wp2
            go_ret2
            exact ⟨fun _ => ⟨rfl, below_alloc HB.out _⟩, fun h => absurd (HT.out.symm.trans h) (by simp), fun h => absurd (HT.out.symm.trans h) (by simp)⟩
          · have HM2 := Lib.hid (HM.out (by unfold busyD; rw [hl, decide_eq_true d1, decide_eq_false d3, decide_eq_false d2]; rfl))
            clear HM HH hl
            go_wp2
            case roundEnd => exact HM2.out
        · have hw5 : IntKind.u64.wrap (e.r.base - b) = e.r.base - b := by have := HBB.out; rw [IntKind.wrap_u64]; omega
          have d2 : b ≤ e.r.base := by omega
          by_cases d3 : e.r.base - b < s
          · have HT := Lib.hid (HH.out (by unfold busyD; rw [hl, decide_eq_false d1, decide_eq_true d2, decide_eq_true d3]; rfl))
            clear HM HH hl
            go_wp2
            go_ret2
            exact ⟨fun _ => ⟨rfl, below_alloc HB.out _⟩, fun h => absurd (HT.out.symm.trans h) (by simp), fun h => absurd (HT.out.symm.trans h) (by simp)⟩
          · have HM2 := Lib.hid (HM.out (by unfold busyD; rw [hl, decide_eq_false d1, decide_eq_true d2, decide_eq_false d3]; rfl))
            clear HM HH hl
            go_wp2
            case roundEnd => exact HM2.out
    · have HT : Hid (Y = false) := Lib.hid (by rw [HS.out, List.drop_eq_nil_of_le (by rw [List.length_map, ← HN.out]; omega)]; rfl)
      have HC := Lib.hid (RCount_ (H.out.below HB.out))
      rw [← HCC.out] at HC
      clear HS
      go_wp2_with fail
      refine HC.out.mono ?_
      rintro x w1 ⟨rfl, hB1⟩
      have HB1 := Lib.hid (HB.out.trans (hB1.mono HB.out.size))
      clear hB1 HC HB
      by_cases d1 : 4096 ≤ C
      · go_wp2
        go_ret2
        exact ⟨fun h => absurd (HT.out.symm.trans h) (by simp), fun _ _ => ⟨rfl, HB1.out⟩, fun _ h => absurd h (by omega)⟩
      · go_wp2
        have LN : Hid (nn ≤ 100000) := Lib.hid hlen
        go_region
        all_goals first
          | (have hN := ((new_abr w1 sn b p).drewN 1)
             obtain ⟨W0, hW0⟩ : ∃ W0, W0 = ((((w1.alloc (Obj.cells (madeCells #[Value.int IntKind.u8 0] sn) 5)).alloc (Obj.cells (madeCells #[Value.bool false] sn) 4)).alloc (Obj.cells #[.bool true, .int .u64 b, .int .i64 p, .slice (some ⟨w1.heap.size, 0, none⟩) sn sn, .slice (some ⟨w1.heap.size + 1, 0, none⟩) sn sn] 59))).drewN 1 := ⟨_, rfl⟩
             have eW : ((((w1.alloc (Obj.cells (madeCells #[Value.int IntKind.u8 0] sn) 5)).alloc (Obj.cells (madeCells #[Value.bool false] sn) 4)).alloc (Obj.cells #[.bool true, .int .u64 b, .int .i64 p, .slice (some ⟨w1.heap.size, 0, none⟩) sn sn, .slice (some ⟨w1.heap.size + 1, 0, none⟩) sn sn] 59))).drew = W0 := hW0.symm
             rw [eW]
             rw [← hW0] at hN
             obtain ⟨rb, hrb⟩ : ∃ rb, rb = w1.heap.size + 1 + 1 := ⟨_, rfl⟩
             rw [← hrb] at hN ⊢
             obtain ⟨gs, hgs⟩ : ∃ gs, gs = w1.heap.size + 1 := ⟨_, rfl⟩
             rw [← hgs] at hN ⊢
             obtain ⟨gb, hgb⟩ : ∃ gb, gb = w1.heap.size := ⟨_, rfl⟩
             rw [← hgb]
             have HNew : Hid (NewD w1 W0 rb gb gs sn b p 0) := Lib.hid (by rw [hgb]; exact hN)
             clear hN eW hW0 hrb hgb hgs)
          | (have hN := ((new_arb w1 sn b p).drewN 1)
             obtain ⟨W0, hW0⟩ : ∃ W0, W0 = ((((w1.alloc (Obj.cells (madeCells #[Value.int IntKind.u8 0] sn) 5)).alloc (Obj.cells #[.bool true, .int .u64 b, .int .i64 p, .slice (some ⟨w1.heap.size, 0, none⟩) sn sn, .slice (some ⟨w1.heap.size + 1 + 1, 0, none⟩) sn sn] 59)).alloc (Obj.cells (madeCells #[Value.bool false] sn) 4))).drewN 1 := ⟨_, rfl⟩
             have eW : ((((w1.alloc (Obj.cells (madeCells #[Value.int IntKind.u8 0] sn) 5)).alloc (Obj.cells #[.bool true, .int .u64 b, .int .i64 p, .slice (some ⟨w1.heap.size, 0, none⟩) sn sn, .slice (some ⟨w1.heap.size + 1 + 1, 0, none⟩) sn sn] 59)).alloc (Obj.cells (madeCells #[Value.bool false] sn) 4))).drew = W0 := hW0.symm
             rw [eW]
             rw [← hW0] at hN
             obtain ⟨gs, hgs⟩ : ∃ gs, gs = w1.heap.size + 1 + 1 := ⟨_, rfl⟩
             rw [← hgs] at hN ⊢
             obtain ⟨rb, hrb⟩ : ∃ rb, rb = w1.heap.size + 1 := ⟨_, rfl⟩
             rw [← hrb] at hN ⊢
             obtain ⟨gb, hgb⟩ : ∃ gb, gb = w1.heap.size := ⟨_, rfl⟩
             rw [← hgb]
             have HNew : Hid (NewD w1 W0 rb gb gs sn b p 0) := Lib.hid (by rw [hgb]; exact hN)
             clear hN eW hW0 hrb hgb hgs)
          | (have hN := ((new_bar w1 sn b p).drewN 1)
             obtain ⟨W0, hW0⟩ : ∃ W0, W0 = ((((w1.alloc (Obj.cells (madeCells #[Value.bool false] sn) 4)).alloc (Obj.cells (madeCells #[Value.int IntKind.u8 0] sn) 5)).alloc (Obj.cells #[.bool true, .int .u64 b, .int .i64 p, .slice (some ⟨w1.heap.size + 1, 0, none⟩) sn sn, .slice (some ⟨w1.heap.size, 0, none⟩) sn sn] 59))).drewN 1 := ⟨_, rfl⟩
             have eW : ((((w1.alloc (Obj.cells (madeCells #[Value.bool false] sn) 4)).alloc (Obj.cells (madeCells #[Value.int IntKind.u8 0] sn) 5)).alloc (Obj.cells #[.bool true, .int .u64 b, .int .i64 p, .slice (some ⟨w1.heap.size + 1, 0, none⟩) sn sn, .slice (some ⟨w1.heap.size, 0, none⟩) sn sn] 59))).drew = W0 := hW0.symm
             rw [eW]
             rw [← hW0] at hN
             obtain ⟨rb, hrb⟩ : ∃ rb, rb = w1.heap.size + 1 + 1 := ⟨_, rfl⟩
             rw [← hrb] at hN ⊢
             obtain ⟨gb, hgb⟩ : ∃ gb, gb = w1.heap.size + 1 := ⟨_, rfl⟩
             rw [← hgb] at hN ⊢
             obtain ⟨gs, hgs⟩ : ∃ gs, gs = w1.heap.size := ⟨_, rfl⟩
             rw [← hgs]
             have HNew : Hid (NewD w1 W0 rb gb gs sn b p 0) := Lib.hid (by rw [hgs]; exact hN)
             clear hN eW hW0 hrb hgb hgs)
          | (have hN := ((new_bra w1 sn b p).drewN 1)
             obtain ⟨W0, hW0⟩ : ∃ W0, W0 = ((((w1.alloc (Obj.cells (madeCells #[Value.bool false] sn) 4)).alloc (Obj.cells #[.bool true, .int .u64 b, .int .i64 p, .slice (some ⟨w1.heap.size + 1 + 1, 0, none⟩) sn sn, .slice (some ⟨w1.heap.size, 0, none⟩) sn sn] 59)).alloc (Obj.cells (madeCells #[Value.int IntKind.u8 0] sn) 5))).drewN 1 := ⟨_, rfl⟩
             have eW : ((((w1.alloc (Obj.cells (madeCells #[Value.bool false] sn) 4)).alloc (Obj.cells #[.bool true, .int .u64 b, .int .i64 p, .slice (some ⟨w1.heap.size + 1 + 1, 0, none⟩) sn sn, .slice (some ⟨w1.heap.size, 0, none⟩) sn sn] 59)).alloc (Obj.cells (madeCells #[Value.int IntKind.u8 0] sn) 5))).drew = W0 := hW0.symm
             rw [eW]
             rw [← hW0] at hN
             obtain ⟨gb, hgb⟩ : ∃ gb, gb = w1.heap.size + 1 + 1 := ⟨_, rfl⟩
             rw [← hgb] at hN ⊢
             obtain ⟨rb, hrb⟩ : ∃ rb, rb = w1.heap.size + 1 := ⟨_, rfl⟩
             rw [← hrb] at hN ⊢
             obtain ⟨gs, hgs⟩ : ∃ gs, gs = w1.heap.size := ⟨_, rfl⟩
             rw [← hgs]
             have HNew : Hid (NewD w1 W0 rb gb gs sn b p 0) := Lib.hid (by rw [hgs]; exact hN)
             clear hN eW hW0 hrb hgb hgs)
          | (have hN := ((new_rab w1 sn b p).drewN 1)
             obtain ⟨W0, hW0⟩ : ∃ W0, W0 = ((((w1.alloc (Obj.cells #[.bool true, .int .u64 b, .int .i64 p, .slice (some ⟨w1.heap.size + 1, 0, none⟩) sn sn, .slice (some ⟨w1.heap.size + 1 + 1, 0, none⟩) sn sn] 59)).alloc (Obj.cells (madeCells #[Value.int IntKind.u8 0] sn) 5)).alloc (Obj.cells (madeCells #[Value.bool false] sn) 4))).drewN 1 := ⟨_, rfl⟩
             have eW : ((((w1.alloc (Obj.cells #[.bool true, .int .u64 b, .int .i64 p, .slice (some ⟨w1.heap.size + 1, 0, none⟩) sn sn, .slice (some ⟨w1.heap.size + 1 + 1, 0, none⟩) sn sn] 59)).alloc (Obj.cells (madeCells #[Value.int IntKind.u8 0] sn) 5)).alloc (Obj.cells (madeCells #[Value.bool false] sn) 4))).drew = W0 := hW0.symm
             rw [eW]
             rw [← hW0] at hN
             obtain ⟨gs, hgs⟩ : ∃ gs, gs = w1.heap.size + 1 + 1 := ⟨_, rfl⟩
             rw [← hgs] at hN ⊢
             obtain ⟨gb, hgb⟩ : ∃ gb, gb = w1.heap.size + 1 := ⟨_, rfl⟩
             rw [← hgb] at hN ⊢
             obtain ⟨rb, hrb⟩ : ∃ rb, rb = w1.heap.size := ⟨_, rfl⟩
             rw [← hrb]
             have HNew : Hid (NewD w1 W0 rb gb gs sn b p 0) := Lib.hid (by rw [hrb]; exact hN)
             clear hN eW hW0 hrb hgb hgs)
          | (have hN := ((new_rba w1 sn b p).drewN 1)
             obtain ⟨W0, hW0⟩ : ∃ W0, W0 = ((((w1.alloc (Obj.cells #[.bool true, .int .u64 b, .int .i64 p, .slice (some ⟨w1.heap.size + 1 + 1, 0, none⟩) sn sn, .slice (some ⟨w1.heap.size + 1, 0, none⟩) sn sn] 59)).alloc (Obj.cells (madeCells #[Value.bool false] sn) 4)).alloc (Obj.cells (madeCells #[Value.int IntKind.u8 0] sn) 5))).drewN 1 := ⟨_, rfl⟩
             have eW : ((((w1.alloc (Obj.cells #[.bool true, .int .u64 b, .int .i64 p, .slice (some ⟨w1.heap.size + 1 + 1, 0, none⟩) sn sn, .slice (some ⟨w1.heap.size + 1, 0, none⟩) sn sn] 59)).alloc (Obj.cells (madeCells #[Value.bool false] sn) 4)).alloc (Obj.cells (madeCells #[Value.int IntKind.u8 0] sn) 5))).drew = W0 := hW0.symm
             rw [eW]
             rw [← hW0] at hN
             obtain ⟨gb, hgb⟩ : ∃ gb, gb = w1.heap.size + 1 + 1 := ⟨_, rfl⟩
             rw [← hgb] at hN ⊢
             obtain ⟨gs, hgs⟩ : ∃ gs, gs = w1.heap.size + 1 := ⟨_, rfl⟩
             rw [← hgs] at hN ⊢
             obtain ⟨rb, hrb⟩ : ∃ rb, rb = w1.heap.size := ⟨_, rfl⟩
             rw [← hrb]
             have HNew : Hid (NewD w1 W0 rb gb gs sn b p 0) := Lib.hid (by rw [hrb]; exact hN)
             clear hN eW hW0 hrb hgb hgs)
        all_goals
          obtain ⟨n0, n1, n2, n3, n4⟩ := HNew.out.cells
          go_wp2
          clear n0 n1 n2 n3 n4
          go_loopw [95] (fun v wr => ∃ (t : Nat) (K : Int), t ≤ sn ∧ v = .int .i64 K ∧ Hid (K = (t : Int)) ∧ Hid (NewD w1 wr rb gb gs sn b p t)) (fun v _ => sn - (intOf v).toNat)
          case atStart => exact ⟨0, 0, Nat.zero_le _, rfl, Lib.hid rfl, HNew⟩
          case round =>
            obtain ⟨t, K, ht, rfl, HK, HD⟩ := hrel
            by_cases hlt : t < sn
            · obtain ⟨n0, n1, n2, n3, n4⟩ := HD.out.cells
              obtain ⟨⟨u, m1⟩, m2, m3⟩ := HD.out.mark hlt
              obtain ⟨f1, f2, f3, f4, f5⟩ := mark_facts HK.out hlt HSN.out.2.2
              have HM3 := Lib.hid m3
              have HF5 := Lib.hid f5
              clear m3 f5 HK HD n0 n1 n2 n3
              go_wp2
              case roundEnd =>
                exact ⟨⟨t + 1, K + 1, by omega, by rw [f4], HF5, HM3⟩, by simp only [intOf]; omega⟩
            · obtain rfl : t = sn := by omega
              have f1 : ¬ K < (t : Int) := by have := HK.out; omega
              obtain ⟨n0, n1, n2, n3, n4⟩ := HD.out.cells
              have H1 : Hid (DIx w1 F g ds) := Lib.hid (H.out.below HB1.out)
              have g1 : w1.cell? ⟨g, 0, none⟩ = some (.slice ao nn cap) := Mem3.old HB1.out g0
              have g0' : wr.cell? ⟨g, 0, none⟩ = some (.slice ao nn cap) := Mem3.old HD.out.below g1
              have gA : ∀ o, (wr.alloc o).cell? ⟨g, 0, none⟩ = some (.slice ao nn cap) := fun o => Mem3.old (below_alloc (Below.refl _ _) o) g0'
              go_wp2
              go_region_law (first
                | (rw [show ∀ o, (wr.alloc o).drew = wr.drew.alloc o from fun _ => rfl]
                   refine step_addD (e := ⟨gb, gs, t, t, newD b p t⟩) H1.out HN.out LN.out g1 HD.out (by simp [cells5, newD]) rfl _ _ rfl rfl rfl ?_
                   rintro bl' cap' W' HA2 hg1 hg2)
                | fail)
              all_goals
                have hk1 : wrap64 ((nn : Int) + 1 - 1) = (nn : Int) := by have := LN.out; unfold wrap64; omega
                go_wp2
                go_ret2
                refine ⟨fun h => absurd (HT.out.symm.trans h) (by simp), fun _ h => absurd h (by omega), fun _ _ => ⟨rfl, ?_⟩⟩
                rename Hid (AppR _ _ _ _ _ _ _ _ _) => HA2
                obtain ⟨F', q1, q2⟩ := add_doneD (e := ⟨gb, gs, t, t, newD b p t⟩) (sn := t) (b := b) (p := p) H1.out HN.out (by have := HLIM.out; have := HN.out; omega) g1 HD.out rfl ⟨rfl, rfl⟩ HSN.out.2 (by have := HAR.out; unfold argOk at this; omega) (by have := HAR.out; have := HSN.out.1; have := HBB.out; unfold argOk at this; omega) HA2.out
                exact ⟨F', _, by rw [HSN.out.1, Int.toNat_natCast], q1, (Step.of_below HB1.out F).trans q2⟩
end
end Go.Proofs.Ytpjgaacdohiomaa.MemRF
