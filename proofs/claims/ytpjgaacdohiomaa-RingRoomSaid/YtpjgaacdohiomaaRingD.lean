/- ring: Submit, walked by hand. -/
import Derived.Test.YtpjgaacdohiomaaRingC
namespace Go.Proofs.Ytpjgaacdohiomaa.RingD
open Go.RowKit Go.Proofs.Ytpjgaacdohiomaa.PMemCopies Go.Proofs.YtpjgaacdohiomaaW.PrintWords Go.Proofs.YtpjgaacdohiomaaW.PrintLast Go.Proofs.YtpjgaacdohiomaaW.PrintMore Go.Proofs.Ytpjgaacdohiomaa.Mw Go.Proofs.Ytpjgaacdohiomaa.Mem1 Go.Proofs.Ytpjgaacdohiomaa.Mem3 Go.Proofs.Ytpjgaacdohiomaa.Mem7 Go.Proofs.Ytpjgaacdohiomaa.MemB Go.Proofs.Ytpjgaacdohiomaa.MemC Go.Proofs.Ytpjgaacdohiomaa.MemQ Go.Proofs.Ytpjgaacdohiomaa.MemK Go.Proofs.Ytpjgaacdohiomaa.RingA Go.Proofs.Ytpjgaacdohiomaa.RingB Go.Proofs.Ytpjgaacdohiomaa.RingC
set_option linter.unusedVariables false
set_option linter.unusedSimpArgs false
theorem infoBytes : (Try.prog.info? 36).map (fun i => (i.zero, i.size, i.bytes)) = some (some (.slice none 0 0), 1, 24) := by kernel_rfl
/-- What an append of a slice to a row of slices leaves. -/
structure AppO (W W' : World) (sv : Value) (n : Nat) (vs : List Value) (v : Value) (bl' cap' : Nat) : Prop where
  own : W'.ownsRow 0 36 1 (.slice (some ⟨bl', 0, none⟩) (n + 1) cap') (n + 1) (vs ++ [v])
  grown : W.grownBy W' sv.ownBlock
  blk : some bl' = sv.ownBlock ∨ W.heap.size ≤ bl'
theorem wpList_out {ops : Array Oper} {o : Oper} {rest : List Oper} {a : Act} {W : World} {Q : Exit → Act → World → Prop} {sv v : Value} {n : Nat} {vs : List Value}
    (hown : W.ownsRow 0 36 1 sv n vs) (h1 : v.oneCell' = true) (hn : n ≤ 100000)
    (hg : o.guard = none) (s x : Operand) (hop : o.op = Op.call { callee := Callee.builtin Builtin.append, args := #[s, x], argTypes := #[71, 71] })
    (hs : a.eval s = sv) (hx : a.eval x = .slice (some ⟨W.heap.size, 0, none⟩) 1 1)
    (hK : ∀ bl' cap' W', Hid (AppO W W' sv n vs v bl' cap') → wpList Try.prog ops Q rest (a.put o.dst (.slice (some ⟨bl', 0, none⟩) (n + 1) cap')) W') :
    wpList Try.prog ops Q (o :: rest) a (W.alloc (.cells #[v] 36)) := by
  refine print_append_cells (P := Try.prog) (w0 := W) (W := W) (ys := [v]) 0 hg s x 71 36 _ 1 24 hop Try.underlying71 infoBytes rfl (by decide) (by decide) sv n vs hs hx rfl (by intro u hu; obtain rfl := List.mem_singleton.1 hu; exact h1) hown (Below.refl _ _) (Nat.zero_le _) (by omega) ?_
  intro v1 w1 ho1 hb1 hg1 hat
  rcases ho1.2 with ⟨_, h0⟩ | ⟨bl', cap', cur, rfl, _⟩
  · omega
  · refine hK bl' cap' w1 (Lib.hid ⟨ho1, hg1, ?_⟩)
    rcases hat with hat | ⟨b2, e2, h2⟩
    · exact .inl hat
    · exact .inr (by cases e2; exact h2)
theorem kept_one {w : World} {F : Nat → Prop} {v : Value} {l : List Int} (h : KeptV w F v l) : ∃ so sc, v = .slice so l.length sc := by
  rcases h with ⟨rfl, rfl⟩ | ⟨b, c, rfl, _⟩
  · exact ⟨_, _, rfl⟩
  · exact ⟨_, _, rfl⟩
theorem own_shape {w : World} {sv : Value} {n e : Nat} {vs : List Value} (h : w.ownsRow 0 e 1 sv n vs) : ∃ so sc, sv = .slice so n sc := by
  rcases h.2 with ⟨rfl, h0⟩ | ⟨b, c, cur, rfl, _⟩
  · exact ⟨none, 0, by rw [h0]⟩
  · exact ⟨_, _, rfl⟩
theorem ring_out (gm : Nat) (ids : List Int) (sv u : Value) (hl : ids.length = 8) : (ringCells gm ids sv)[9]? = some sv ∧ (ringCells gm ids sv).setIfInBounds 9 u = ringCells gm ids u := by
  obtain ⟨a0, a1, a2, a3, a4, a5, a6, a7, rfl⟩ := eight hl
  exact ⟨rfl, rfl⟩
section
variable {w w' : World} {F : Nat → Prop} {g gm : Nat} {rs : List Rg} {nx : Int} {ids : List Int} {out : List (List Int)}
theorem sub_done {W' : World} {F1 Fo : Nat → Prop} {sv v : Value} {vs : List Value} {l : List Int} {bl' cap' : Nat} {Fv : Nat → Prop}
    (h1 : w.heap[g]? = some (.cells (ringCells gm ids sv) 111 (0, 0))) (h2 : MQ w F1 gm rs nx) (h3 : w.ownsRow 0 36 1 sv out.length vs) (h3b : ∀ k, sv.ownBlock = some k → Fo k) (h3c : ∀ (i : Nat) (l : List Int), out[i]? = some l → ∃ v, vs[i]? = some v ∧ KeptV w Fo v l)
    (h4 : ∀ b, F1 b → ¬ Fo b) (h5 : ¬ F1 g) (h6 : ¬ Fo g) (h7 : ∀ b, Fo b → b < w.heap.size) (hl : ids.length = 8) (hi : ∀ i ∈ ids, 0 ≤ i ∧ i ≤ nx)
    (hv : KeptV w Fv v l) (hf : ∀ b, Fv b → ¬ (b = g ∨ F1 b ∨ Fo b) ∧ b < w.heap.size)
    (hA : AppO w W' sv out.length vs v bl' cap') :
    RQ (W'.setCell ⟨g, 9, none⟩ (.slice (some ⟨bl', 0, none⟩) (out.length + 1 : Nat) cap')) (fun b => b = g ∨ F1 b ∨ (Fo b ∨ Fv b ∨ b = bl')) g gm rs nx ids (out ++ [l]) ∧ ∀ b, b < w.heap.size → ¬ (b = g ∨ F1 b ∨ Fo b) → (W'.setCell ⟨g, 9, none⟩ (.slice (some ⟨bl', 0, none⟩) (out.length + 1 : Nat) cap')).heap[b]? = w.heap[b]? := by
  have hgl := blk_lt h1
  have hng : some g ≠ sv.ownBlock := fun e => h6 (h3b g e.symm)
  have hg' := (hA.grown.block g hgl hng).trans h1
  obtain ⟨cur, hbl⟩ := own_typed hA.own bl' rfl
  have hne : bl' ≠ g := blk_ne hbl hg' (by decide)
  have s1 := hA.grown.size
  have keep : ∀ b, b < w.heap.size → some b ≠ sv.ownBlock → b ≠ g → (W'.setCell ⟨g, 9, none⟩ (.slice (some ⟨bl', 0, none⟩) (out.length + 1 : Nat) cap')).heap[b]? = w.heap[b]? := fun b hb hn hg2 => (Below.heap_setCell W' ⟨g, 9, none⟩ _ b hg2).trans (hA.grown.block b hb hn)
  have keep5 : ∀ (b : Nat) (cs : Array Value), w.heap[b]? = some (Obj.cells cs 5 (0, 0)) → (W'.setCell ⟨g, 9, none⟩ (.slice (some ⟨bl', 0, none⟩) (out.length + 1 : Nat) cap')).heap[b]? = w.heap[b]? := fun b cs hb => keep b (blk_lt hb) (fun e => by obtain ⟨_, ht⟩ := own_typed h3 b e.symm; exact blk_ne hb ht (by decide) rfl) (blk_ne hb h1 (by decide))
  have kept : ∀ {G G' : Nat → Prop} {u : Value} {l : List Int}, KeptV w G u l → (∀ b, G b → G' b) → KeptV (W'.setCell ⟨g, 9, none⟩ (.slice (some ⟨bl', 0, none⟩) (out.length + 1 : Nat) cap')) G' u l := fun {G G' u l} h hG => by
    rcases h with h | ⟨b, c, k1, k2, k3, k4⟩
    · exact .inl h
    · have k4' := k4
      obtain ⟨_, k5⟩ := k4'
      exact .inr ⟨b, c, k1, k2, hG b k3, k4.keep (keep5 b _ k5)⟩
  refine ⟨⟨⟨F1, fun b => Fo b ∨ Fv b ∨ b = bl', .slice (some ⟨bl', 0, none⟩) (out.length + 1 : Nat) cap', rfl, ?_, ?_, ⟨vs ++ [v], ?_, ?_, ?_⟩, ?_, h5, ?_, ?_⟩, hl, hi⟩, fun b hb hn => keep b hb (fun e => hn (.inr (.inr (h3b b e.symm)))) (fun e => hn (.inl e))⟩
  · have := MemB.heap_setCell_at (i := 9) (v := .slice (some ⟨bl', 0, none⟩) (out.length + 1 : Nat) cap') hg'
    rw [(ring_out gm ids sv _ hl).2] at this
    exact this
  · have hs : Step w (W'.setCell ⟨g, 9, none⟩ (.slice (some ⟨bl', 0, none⟩) (out.length + 1 : Nat) cap')) (fun b => b = g ∨ Fo b) (fun _ => False) := ⟨hA.grown.os, hA.grown.tape, hA.grown.output, by simp [World.setCell]; exact s1, fun b hb hn => keep b hb (fun e => hn (.inr (h3b b e.symm))) (fun e => hn (.inl e)), fun b h => h.elim⟩
    exact h2.step hs (fun b hb e => e.elim (fun e => h5 (e ▸ hb)) (h4 b hb))
  · rw [List.length_append, List.length_singleton]
    exact own_move hA.own (fun k hk => by cases hk; exact Below.heap_setCell W' ⟨g, 9, none⟩ _ bl' hne)
  · intro k hk; cases hk; exact .inr (.inr rfl)
  · intro i l' hi'
    have hvl : vs.length = out.length := by have := h3.1; omega
    by_cases hil : i < out.length
    · rw [List.getElem?_append_left hil] at hi'
      obtain ⟨u, k1, k2⟩ := h3c i l' hi'
      exact ⟨u, by rw [List.getElem?_append_left (by omega)]; exact k1, kept k2 (fun b h => .inl h)⟩
    · have := (List.getElem?_eq_some_iff.1 hi').1
      rw [List.length_append, List.length_singleton] at this
      obtain rfl : i = out.length := by omega
      rw [List.getElem?_append_right (Nat.le_refl _), Nat.sub_self] at hi'
      obtain rfl : l = l' := by simpa using hi'
      exact ⟨v, by rw [List.getElem?_append_right (by omega), hvl, Nat.sub_self]; rfl, kept hv (fun b h => .inr (.inl h))⟩
  · intro b hb hx
    rcases hx with hx | hx | rfl
    · exact h4 b hb hx
    · exact (hf b hx).1 (.inr (.inl hb))
    · have hbw := h2.lt b hb
      rcases hA.blk with h8 | h8
      · exact h4 b hb (h3b b h8.symm)
      · omega
  · rintro (h8 | h8 | h8)
    · exact h6 h8
    · exact (hf g h8).1 (.inl rfl)
    · exact hne h8.symm
  · rintro b (h8 | h8 | rfl)
    · have := h7 b h8; simp [World.setCell]; omega
    · have := (hf b h8).2; simp [World.setCell]; omega
    · have := blk_lt hbl; simpa [World.setCell] using this
set_option maxRecDepth 100000 in
set_option maxHeartbeats 4000000 in
theorem Submit_go (h : RQ w F g gm rs nx ids out) (hx : nx < 1000000) (hn : out.length ≤ 100000) (a : Int) :
    Calls Try.prog 39 #[.pointer (some ⟨g, 0, none⟩), .int .u64 a] w fun e w' =>
      ((∀ k, k < 8 → ¬ (0 < ids.getD k 0 ∧ place k = a)) → e = .returned (.int .i64 14) ∧ w = w') ∧
      ∀ k, k < 8 → 0 < ids.getD k 0 → place k = a → ∃ F', e = .returned (.int .i64 0) ∧ RQ w' F' g gm (killQ rs (ids.getD k 0 - 1)).2 nx (ids.set k 0) (out ++ [(bytesQ rs (ids.getD k 0 - 1)).2]) ∧ Step w w' F F' := by
  have hE := end_go h hx a
  by_cases hex : ∃ k, k < 8 ∧ 0 < ids.getD k 0 ∧ place k = a
  · obtain ⟨k, hk, h0, h1⟩ := hex
    have HE : Hid (Calls Try.prog 57 #[.pointer (some ⟨g, 0, none⟩), .int .u64 a] w fun e w' => ∃ v F', e = .returned (.tuple #[v, .int .i64 0]) ∧ RQ w' F' g gm (killQ rs (ids.getD k 0 - 1)).2 nx (ids.set k 0) out ∧ Step w w' F F' ∧ HandV w w' F' v (bytesQ rs (ids.getD k 0 - 1)).2) := Lib.hid (hE.mono fun e w' he => he.2 k hk h0 h1)
    have HH := Lib.hid (And.intro hk (And.intro h0 h1))
    have HNO := Lib.hid hn
    clear hE h hx hk h0 h1 hn
    refine Calls.mono (R := fun e w' => ∃ F', e = .returned (.int .i64 0) ∧ RQ w' F' g gm (killQ rs (ids.getD k 0 - 1)).2 nx (ids.set k 0) (out ++ [(bytesQ rs (ids.getD k 0 - 1)).2]) ∧ Step w w' F F') ?_ (fun e w' hp => ⟨fun hn => absurd ⟨HH.out.2.1, HH.out.2.2⟩ (hn k HH.out.1), fun k' hk' h0' h1' => by
      obtain rfl := place_inj (HH.out.2.2.trans h1'.symm)
      exact hp⟩)
    generalize (killQ rs (ids.getD k 0 - 1)).2 = rs1 at *
    generalize (bytesQ rs (ids.getD k 0 - 1)).2 = l1 at *
    generalize ids.set k 0 = ids1 at *
    go_enter Try.func39, Try.ntmps39
    go_wp2_with fail
    refine HE.out.mono ?_
    rintro e w1 ⟨v, F', rfl, ⟨⟨F1, Fo, sv, rfl, h1, h2, ⟨vs, h3, h3b, h3c⟩, h4, h5, h6, h7⟩, hl, hi⟩, hs, Fv, hv, hf⟩
    obtain ⟨vo, vc, rfl⟩ := kept_one hv
    obtain ⟨so, sc, rfl⟩ := own_shape h3
    have g9 : w1.cell? ⟨g, 9, none⟩ = some (.slice so out.length sc) := (blk_cell h1 9).trans (ring_out gm ids1 _ (.int .i64 0) hl).1
    have f9 := blk_frozen h1 9
    have HOWN := Lib.hid h3
    have HS := Lib.hid hs
    have HD := Lib.hid (fun W' bl' cap' (hA : AppO w1 W' (.slice so out.length sc) out.length vs (.slice vo l1.length vc) bl' cap') => sub_done h1 h2 h3 h3b h3c h4 h5 h6 h7 hl hi hv (fun b hb => ⟨(hf b hb).2.1, (hf b hb).2.2⟩) hA)
    have HF := Lib.hid (And.intro h3b (And.intro (fun b hb => (hf b hb).1) (And.intro h6 (blk_lt h1))))
    have HSELF := Lib.hid h1
    have g9a : ∀ o, (w1.alloc o).cell? ⟨g, 9, none⟩ = some (.slice so out.length sc) := fun o => old (below_alloc (Below.refl _ _) o) g9
    obtain ⟨no, hno⟩ : ∃ no, no = out.length := ⟨_, rfl⟩
    rw [← hno] at g9 g9a HOWN HD HF HNO
    have HNN := Lib.hid hno
    clear h1 h2 h3 h3b h3c h4 h5 h6 h7 hl hi hv hf hs HE hno
    go_wp2_with (at_builtin; refine Stand.out ?_)
    refine ⟨?_⟩
    refine wpList_out HOWN.out rfl HNO.out rfl _ _ rfl rfl rfl ?_
    intro bl' cap' W' HA
    have hng : some g ≠ (Value.slice so no sc).ownBlock := fun e => HF.out.2.2.1 (HF.out.1 g e.symm)
    have hg' := (HA.out.grown.block g HF.out.2.2.2 hng).trans HSELF.out
    have d9 : ∃ u, W'.cell? ⟨g, 9, none⟩ = some u := ⟨_, (World.cell?_of_block (w := w1) (a := ⟨g, 9, none⟩) (HA.out.grown.block g HF.out.2.2.2 hng)).trans g9⟩
    have e9 := blk_frozen hg' 9
    obtain ⟨u9, d9⟩ := d9
    clear hng hg' g9 g9a f9
    go_wp2
    go_ret
    obtain ⟨z1, z2⟩ := HD.out W' bl' cap' HA.out
    refine ⟨_, rfl, z1, ⟨HA.out.grown.os.trans HS.out.os, HA.out.grown.tape.trans HS.out.tape, HA.out.grown.output.trans HS.out.output, by have := HS.out.size; have := HA.out.grown.size; simp [World.setCell]; omega, fun b hb hF => ?_, fun b hb => ?_⟩⟩
    · have hb1 := Nat.lt_of_lt_of_le hb HS.out.size
      refine (z2 b hb1 (fun h => ?_)).trans (HS.out.block b hb hF)
      rcases HS.out.foot b h with h8 | h8
      · exact hF h8
      · omega
    · have foot : ∀ b, (b = g ∨ F1 b ∨ Fo b) → F b ∨ w.heap.size ≤ b := HS.out.foot
      rcases hb with hb | hb | hb | hb | rfl
      · exact foot b (.inl hb)
      · exact foot b (.inr (.inl hb))
      · exact foot b (.inr (.inr hb))
      · exact .inr (HF.out.2.1 b hb)
      · rcases HA.out.blk with h8 | h8
        · exact foot b (.inr (.inr (HF.out.1 b h8.symm)))
        · exact .inr (Nat.le_trans HS.out.size h8)
  · have hn : ∀ k, k < 8 → ¬ (0 < ids.getD k 0 ∧ place k = a) := fun k hk h => hex ⟨k, hk, h⟩
    have HE := Lib.hid (hE.mono fun e w' he => he.1 hn)
    have HH := Lib.hid hn
    clear hE h hx hex hn
    refine Calls.mono (R := fun e w' => e = .returned (.int .i64 14) ∧ w = w') ?_ (fun e w' hp => ⟨fun _ => hp, fun k hk h0 h1 => absurd ⟨h0, h1⟩ (HH.out k hk)⟩)
    go_enter Try.func39, Try.ntmps39
    go_wp2_with fail
    refine HE.out.mono ?_
    rintro e w1 ⟨rfl, rfl⟩
    go_wp2
    go_ret
    exact ⟨rfl, rfl⟩
end
end Go.Proofs.Ytpjgaacdohiomaa.RingD
