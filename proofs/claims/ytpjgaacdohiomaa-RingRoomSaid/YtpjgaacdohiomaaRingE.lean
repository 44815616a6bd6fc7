/- ring: Out, walked by hand. -/
import Derived.Test.YtpjgaacdohiomaaRingD
namespace Go.Proofs.Ytpjgaacdohiomaa.RingE
open Go.RowKit Go.Proofs.Ytpjgaacdohiomaa.PMemCopies Go.Proofs.YtpjgaacdohiomaaW.PrintWords Go.Proofs.YtpjgaacdohiomaaW.PrintLast Go.Proofs.YtpjgaacdohiomaaW.PrintMore Go.Proofs.Ytpjgaacdohiomaa.Mw Go.Proofs.Ytpjgaacdohiomaa.Mem1 Go.Proofs.Ytpjgaacdohiomaa.Mem3 Go.Proofs.Ytpjgaacdohiomaa.Mem7 Go.Proofs.Ytpjgaacdohiomaa.MemB Go.Proofs.Ytpjgaacdohiomaa.MemC Go.Proofs.Ytpjgaacdohiomaa.MemQ Go.Proofs.Ytpjgaacdohiomaa.MemK Go.Proofs.Ytpjgaacdohiomaa.RingA Go.Proofs.Ytpjgaacdohiomaa.RingB Go.Proofs.Ytpjgaacdohiomaa.RingC Go.Proofs.Ytpjgaacdohiomaa.RingD
set_option linter.unusedVariables false
set_option linter.unusedSimpArgs false
/-- Clone of what is kept. -/
theorem clone_kept {w : World} {F : Nat → Prop} {v : Value} {l : List Int} (h : KeptV w F v l) (hl : l.length ≤ 100000) :
    Calls Try.prog 47 #[v] w fun e w' => ∃ v' Fv, e = .returned v' ∧ KeptV w' Fv v' l ∧ (∀ b, Fv b → w.heap.size ≤ b ∧ b < w'.heap.size) ∧ Below w.heap.size w w' := by
  rcases h with ⟨rfl, rfl⟩ | ⟨b, c, rfl, h1, h2, h3⟩
  · refine (Try.bytes_Clone_nil 0 0 w).mono ?_
    rintro e w' ⟨rfl, rfl⟩
    exact ⟨_, fun _ => False, rfl, .inl ⟨rfl, rfl⟩, fun b h => h.elim, Below.refl _ _⟩
  · have := clone_ h3 0 l.length c (by omega) hl
    rw [List.drop_zero, List.take_length] at this
    refine this.mono ?_
    rintro e w' ⟨b', c', rfl, k1, k2, k3, k4⟩
    exact ⟨_, fun x => x = b', rfl, .inr ⟨b', c', rfl, k1, rfl, k3⟩, fun x hx => by subst hx; exact ⟨k2, k3.lt⟩, k4⟩
/-- What Out has made so far. -/
def OutS (w wr : World) (u : Value) (out : List (List Int)) : Prop := ∃ vs Fo, wr.ownsRow 0 36 1 u out.length vs ∧ (∀ k, u.ownBlock = some k → Fo k) ∧ (∀ (i : Nat) (l : List Int), out[i]? = some l → ∃ v, vs[i]? = some v ∧ KeptV wr Fo v l) ∧ (∀ b, Fo b → w.heap.size ≤ b ∧ b < wr.heap.size) ∧ Below w.heap.size w wr
theorem OutS.start (w : World) : OutS w w (.slice none 0 0) [] := ⟨[], fun _ => False, World.ownsRow_nil _ _ _ _, fun k hk => by simp [Value.ownBlock] at hk, fun i l h => by simp at h, fun b h => h.elim, Below.refl _ _⟩
theorem OutS.more {w wr w2 W' : World} {u v : Value} {out : List (List Int)} {l : List Int} {Fv : Nat → Prop} {bl' cap' : Nat} {vs : List Value} {Fo : Nat → Prop}
    (h1 : wr.ownsRow 0 36 1 u out.length vs) (h2 : ∀ k, u.ownBlock = some k → Fo k) (h3 : ∀ (i : Nat) (l : List Int), out[i]? = some l → ∃ v, vs[i]? = some v ∧ KeptV wr Fo v l) (h4 : ∀ b, Fo b → w.heap.size ≤ b ∧ b < wr.heap.size) (h5 : Below w.heap.size w wr)
    (hB : Below wr.heap.size wr w2) (hv : KeptV w2 Fv v l) (hf : ∀ b, Fv b → wr.heap.size ≤ b ∧ b < w2.heap.size) (hA : AppO w2 W' u out.length vs v bl' cap') : OutS w W' (.slice (some ⟨bl', 0, none⟩) (out.length + 1) cap') (out ++ [l]) := by
  have s1 := hB.size
  have s2 := hA.grown.size
  have s3 := h5.size
  have h1' : w2.ownsRow 0 36 1 u out.length vs := own_move h1 (fun k hk => hB.block k (h4 k (h2 k hk)).2)
  have keep5 : ∀ (b : Nat) (cs : Array Value), w2.heap[b]? = some (Obj.cells cs 5 (0, 0)) → W'.heap[b]? = w2.heap[b]? := fun b cs hb => hA.grown.block b (blk_lt hb) (fun e => by obtain ⟨_, ht⟩ := own_typed h1' b e.symm; exact blk_ne hb ht (by decide) rfl)
  have kept : ∀ {G G' : Nat → Prop} {u : Value} {l : List Int}, KeptV w2 G u l → (∀ b, G b → G' b) → KeptV W' G' u l := fun {G G' u l} h hG => by
    rcases h with h | ⟨b, c, k1, k2, k3, k4⟩
    · exact .inl h
    · have k4' := k4
      obtain ⟨_, k5⟩ := k4'
      exact .inr ⟨b, c, k1, k2, hG b k3, k4.keep (keep5 b _ k5)⟩
  have hvl : vs.length = out.length := by have := h1.1; omega
  obtain ⟨cur, hbl⟩ := own_typed hA.own bl' rfl
  refine ⟨vs ++ [v], fun b => Fo b ∨ Fv b ∨ b = bl', ?_, fun k hk => by cases hk; exact .inr (.inr rfl), fun i l' hi => ?_, fun b hb => ?_, ⟨hA.grown.os.trans (hB.os.trans h5.os), hA.grown.tape.trans (hB.tape.trans h5.tape), hA.grown.output.trans (hB.output.trans h5.output), by omega, fun k hk => ?_⟩⟩
  · rw [List.length_append, List.length_singleton]; exact hA.own
  · by_cases hil : i < out.length
    · rw [List.getElem?_append_left hil] at hi
      obtain ⟨u', k1, k2⟩ := h3 i l' hi
      exact ⟨u', by rw [List.getElem?_append_left (by omega)]; exact k1, kept (k2.keep (fun b hb => hB.block b (h4 b hb).2) (fun _ h => h)) (fun b h => .inl h)⟩
    · have := (List.getElem?_eq_some_iff.1 hi).1
      rw [List.length_append, List.length_singleton] at this
      obtain rfl : i = out.length := by omega
      rw [List.getElem?_append_right (Nat.le_refl _), Nat.sub_self] at hi
      obtain rfl : l = l' := by simpa using hi
      exact ⟨v, by rw [List.getElem?_append_right (by omega), hvl, Nat.sub_self]; rfl, kept hv (fun b h => .inr (.inl h))⟩
  · rcases hb with hb | hb | rfl
    · have := h4 b hb; omega
    · have := hf b hb; omega
    · refine ⟨?_, blk_lt hbl⟩
      rcases hA.blk with h8 | h8
      · exact (h4 b (h2 b h8.symm)).1
      · omega
  · rw [hA.grown.block k (by omega) (fun e => by have := (h4 k (h2 k e.symm)).1; omega), hB.block k (by omega), h5.block k hk]
section
variable {w w' : World} {F : Nat → Prop} {g gm : Nat} {rs : List Rg} {nx : Int} {ids : List Int} {out : List (List Int)}
set_option maxRecDepth 100000 in
set_option maxHeartbeats 4000000 in
theorem Out_go (h : RQ w F g gm rs nx ids out) (hn : out.length ≤ 90000) (hlo : ∀ l ∈ out, l.length ≤ 100000) :
    Calls Try.prog 35 #[.pointer (some ⟨g, 0, none⟩)] w fun e w' => ∃ u, e = .returned u ∧ OutS w w' u out := by
  obtain ⟨⟨F1, Fo, sv, rfl, h1, h2, ⟨vs, h3, h3b, h3c⟩, h4, h5, h6, h7⟩, hl, hi⟩ := h
  obtain ⟨so, sc, rfl⟩ := own_shape h3
  have g9 : w.cell? ⟨g, 9, none⟩ = some (.slice so out.length sc) := (blk_cell h1 9).trans (ring_out gm ids _ (.int .i64 0) hl).1
  have hat : ∀ (k : Nat), k < out.length → ∃ bl v, so = some ⟨bl, 0, none⟩ ∧ w.cell? ⟨bl, k, none⟩ = some v ∧ KeptV w Fo v (out.getD k []) := fun k hk => by
    have hvl : vs.length = out.length := by have := h3.1; omega
    obtain ⟨v, k1, k2⟩ := h3c k (out.getD k []) (by rw [List.getD_eq_getElem?_getD, List.getElem?_eq_getElem hk]; rfl)
    rcases h3.2 with ⟨_, h0⟩ | ⟨bl, cap, cur, e, _, hb, _, _, _, ht⟩
    · omega
    · cases e
      refine ⟨bl, v, rfl, ?_, k2⟩
      rw [blk_cell hb, ← Array.getElem?_toList]
      rw [← ht, List.getElem?_take] at k1
      split at k1
      · exact k1
      · cases k1
  have hcs : out.length ≤ sc := by
    rcases h3.2 with ⟨e, h0⟩ | ⟨bl, cap, cur, e, _, hb, hc, _⟩
    · omega
    · cases e; exact hc
  have HAT := Lib.hid hat
  have HFO := Lib.hid h7
  have HLO := Lib.hid hlo
  obtain ⟨no, hno⟩ : ∃ no, no = out.length := ⟨_, rfl⟩
  have HNO := Lib.hid hno
  rw [← hno] at g9 hn hcs
  clear h1 h2 h3 h3b h3c h4 h5 h6 h7 hl hi hat hlo hno
  go_enter Try.func35, Try.ntmps35
  go_wp2
  clear g9
  go_loopw [3, 13] (fun u i wr => ∃ k : Nat, k ≤ no ∧ i = .int .i64 (k : Int) ∧ Hid (OutS w wr u (out.take k))) (fun _ i _ => no - (intOf i).toNat)
  case atStart => exact ⟨0, Nat.zero_le _, rfl, Lib.hid (OutS.start w)⟩
  case round =>
    obtain ⟨k, hk, rfl, HS⟩ := hrel
    by_cases hlt : k < no
    · obtain ⟨bl, v, rfl, e0, hv⟩ := HAT.out k (by rw [← HNO.out]; exact hlt)
      obtain ⟨vs1, Fo1, s1, s2, s3, s4, s5⟩ := HS.out
      have e1 := old s5 e0
      have hk1 : (out.take k).length = k := by rw [List.length_take, ← HNO.out]; omega
      have hv1 := hv.keep (fun b hb => s5.block b (HFO.out b hb)) (fun _ h => h)
      obtain ⟨vo, vc, rfl⟩ := kept_one hv
      have HCL := Lib.hid (clone_kept hv1 (HLO.out _ (by rw [List.getD_eq_getElem?_getD, List.getElem?_eq_getElem (by rw [← HNO.out]; exact hlt)]; exact List.getElem_mem _)))
      obtain ⟨uo, uc, rfl⟩ := own_shape s1
      have HSS := Lib.hid (fun w2 W' Fv v' bl' cap' (hB : Below wr.heap.size wr w2) (hv' : KeptV w2 Fv v' (out.getD k [])) (hf : ∀ b, Fv b → wr.heap.size ≤ b ∧ b < w2.heap.size) (hA : AppO w2 W' _ (out.take k).length vs1 v' bl' cap') => OutS.more s1 s2 s3 s4 s5 hB hv' hf hA)
      have HOWN := Lib.hid (fun w2 (hB : Below wr.heap.size wr w2) => own_move (w1 := w2) s1 (fun b hb => hB.block b (s4 b (s2 b hb)).2))
      rw [hk1] at HSS HOWN ⊢
      have HTK : Hid (out.take k ++ [out.getD k []] = out.take (k + 1)) := Lib.hid (by
        rw [List.take_add_one, List.getD_eq_getElem?_getD, List.getElem?_eq_getElem (by rw [← HNO.out]; exact hlt)]; rfl)
      have n5 : k ≤ 100000 := by omega
      generalize (out.getD k []).length = ln at *
      clear e0 hv hv1 s1 s2 s3 s4 s5 hk1
      go_wp2_with fail
      refine HCL.out.mono ?_
      rintro e w2 ⟨v', Fv, rfl, k1, k2, k3⟩
      obtain ⟨vo2, vc2, rfl⟩ := kept_one k1
      have HC := Lib.hid (And.intro k1 (And.intro k2 k3))
      clear k1 k2 k3 HCL
      go_wp2_with (at_builtin; refine Stand.out ?_)
      refine ⟨?_⟩
      refine wpList_out (HOWN.out w2 HC.out.2.2) rfl n5 rfl _ _ rfl rfl rfl ?_
      intro bl' cap' W' HA
      have HS2 := Lib.hid (HSS.out w2 W' Fv _ bl' cap' HC.out.2.2 HC.out.1 HC.out.2.1 HA.out)
      rw [HTK.out] at HS2
      clear HS HSS HOWN HC HA
      go_wp2
      case roundEnd => exact ⟨⟨k + 1, by omega, by go_num, HS2⟩, by simp [intOf]; omega⟩
    · obtain ⟨vs1, Fo1, s1, -⟩ := HS.out
      have HF : Hid (OutS w wr u3 out) := Lib.hid (by
        have := HS.out
        rwa [List.take_of_length_le (by rw [← HNO.out]; omega)] at this)
      go_wp2
      go_ret
      exact ⟨_, rfl, HF.out⟩
end
end Go.Proofs.Ytpjgaacdohiomaa.RingE
