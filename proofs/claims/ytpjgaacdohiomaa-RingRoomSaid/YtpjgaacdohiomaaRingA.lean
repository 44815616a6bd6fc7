/- ring: the ring in memory; place, New, Open, walked by hand. -/
import Derived.Test.YtpjgaacdohiomaaMemK
import Derived.Deep.RegionHeld3
namespace Go.Proofs.Ytpjgaacdohiomaa.RingA
open Go.RowKit Go.Proofs.Ytpjgaacdohiomaa.PMemCopies Go.Proofs.YtpjgaacdohiomaaW.PrintWords Go.Proofs.YtpjgaacdohiomaaW.PrintLast Go.Proofs.YtpjgaacdohiomaaW.PrintMore Go.Proofs.Ytpjgaacdohiomaa.Mw Go.Proofs.Ytpjgaacdohiomaa.Mem1 Go.Proofs.Ytpjgaacdohiomaa.Mem3 Go.Proofs.Ytpjgaacdohiomaa.MemB Go.Proofs.Ytpjgaacdohiomaa.MemQ Go.Proofs.Ytpjgaacdohiomaa.MemK
set_option linter.unusedVariables false
set_option linter.unusedSimpArgs false
def place (k : Nat) : Int := 68719476736 + (k : Int) * 4096
/-- The ring's own cells. -/
def ringCells (gm : Nat) (ids : List Int) (sv : Value) : Array Value := (Value.pointer (some ⟨gm, 0, none⟩) :: (ids.map (Value.int .i64) ++ [sv])).toArray
/-- Bytes that a ring keeps. -/
def KeptV (w : World) (F : Nat → Prop) (v : Value) (l : List Int) : Prop := (l = [] ∧ v = .slice none 0 0) ∨ ∃ b c, v = .slice (some ⟨b, 0, none⟩) l.length c ∧ l.length ≤ c ∧ F b ∧ Row w b 5 (l.map (Value.int .u8))
/-- What was submitted. -/
def OutV (w : World) (F : Nat → Prop) (sv : Value) (out : List (List Int)) : Prop :=
  ∃ vs : List Value, w.ownsRow 0 36 1 sv out.length vs ∧ (∀ k, sv.ownBlock = some k → F k) ∧ ∀ (i : Nat) (l : List Int), out[i]? = some l → ∃ v, vs[i]? = some v ∧ KeptV w F v l
/-- The ring lies at g, its memory at gm. -/
structure RQ (w : World) (F : Nat → Prop) (g gm : Nat) (rs : List Rg) (nx : Int) (ids : List Int) (out : List (List Int)) : Prop where
  self : ∃ (F1 Fo : Nat → Prop) (sv : Value), F = (fun b => b = g ∨ F1 b ∨ Fo b) ∧ w.heap[g]? = some (.cells (ringCells gm ids sv) 111 (0, 0)) ∧ MQ w F1 gm rs nx ∧ OutV w Fo sv out ∧ (∀ b, F1 b → ¬ Fo b) ∧ ¬ F1 g ∧ ¬ Fo g ∧ ∀ b, Fo b → b < w.heap.size
  len : ids.length = 8
  ids : ∀ i ∈ ids, 0 ≤ i ∧ i ≤ nx
section
variable {w w' : World} {F : Nat → Prop} {g gm : Nat} {rs : List Rg} {nx : Int} {ids : List Int} {out : List (List Int)}
theorem KeptV.keep {v : Value} {l : List Int} {F' : Nat → Prop} (h : KeptV w F v l) (hk : ∀ b, F b → w'.heap[b]? = w.heap[b]?) (hF : ∀ b, F b → F' b) : KeptV w' F' v l := by
  rcases h with h | ⟨b, c, h1, h2, h3, h4⟩
  · exact .inl h
  · exact .inr ⟨b, c, h1, h2, hF b h3, h4.keep (hk b h3)⟩
theorem OutV.keep {sv : Value} {F' : Nat → Prop} (h : OutV w F sv out) (hk : ∀ b, F b → w'.heap[b]? = w.heap[b]?) (hF : ∀ b, F b → F' b) : OutV w' F' sv out := by
  obtain ⟨vs, h1, h2, h3⟩ := h
  refine ⟨vs, own_move h1 (fun k hk' => hk k (h2 k hk')), fun k hk' => hF k (h2 k hk'), fun i l hi => ?_⟩
  obtain ⟨v, h4, h5⟩ := h3 i l hi
  exact ⟨v, h4, h5.keep hk hF⟩
theorem RQ.below (h : RQ w F g gm rs nx ids out) (hb : Below w.heap.size w w') : RQ w' F g gm rs nx ids out := by
  obtain ⟨⟨F1, Fo, sv, rfl, h1, h2, h3, h4, h5, h6, h7⟩, hl, hi⟩ := h
  exact ⟨⟨F1, Fo, sv, rfl, (hb.block g (blk_lt h1)).trans h1, h2.below hb, h3.keep (fun b hb' => hb.block b (h7 b hb')) (fun _ h => h), h4, h5, h6, fun b hb' => Nat.lt_of_lt_of_le (h7 b hb') hb.size⟩, hl, hi⟩
theorem RQ.drewN (h : RQ w F g gm rs nx ids out) (n : Nat) : RQ (w.drewN n) F g gm rs nx ids out := h.below (pw_below_drewN (Below.refl _ _) n)
theorem RQ.lt (h : RQ w F g gm rs nx ids out) : ∀ b, F b → b < w.heap.size := by
  obtain ⟨⟨F1, Fo, sv, rfl, h1, h2, h3, h4, h5, h6, h7⟩, hl, hi⟩ := h
  intro b hb
  rcases hb with rfl | hb | hb
  · exact blk_lt h1
  · exact h2.lt b hb
  · exact h7 b hb
theorem eight {l : List Int} (h : l.length = 8) : ∃ a0 a1 a2 a3 a4 a5 a6 a7, l = [a0, a1, a2, a3, a4, a5, a6, a7] := by
  match l, h with
  | [a0, a1, a2, a3, a4, a5, a6, a7], _ => exact ⟨a0, a1, a2, a3, a4, a5, a6, a7, rfl⟩
theorem idx_run (a0 a1 a2 a3 a4 a5 a6 a7 : Int) (k : Nat) (hk : k < 8) (W : World) : (Instr.index 109 (.agg #[.int .i64 a0, .int .i64 a1, .int .i64 a2, .int .i64 a3, .int .i64 a4, .int .i64 a5, .int .i64 a6, .int .i64 a7]) (.int .i64 (k : Int))).run Try.prog W = .ok (.int .i64 ([a0, a1, a2, a3, a4, a5, a6, a7].getD k 0)) W := by
  rcases (show k = 0 ∨ k = 1 ∨ k = 2 ∨ k = 3 ∨ k = 4 ∨ k = 5 ∨ k = 6 ∨ k = 7 by omega) with rfl | rfl | rfl | rfl | rfl | rfl | rfl | rfl
  all_goals kernel_rfl
theorem place_ (k : Nat) (hk : k < 8) (w : World) : Calls Try.prog 56 #[.int .i64 (k : Int)] w fun e w' => e = .returned (.int .u64 (place k)) ∧ w = w' := by
  have hs : shl .u64 (IntKind.u64.wrap (k : Int)) 12 = (k : Int) * 4096 := by
    rcases (show k = 0 ∨ k = 1 ∨ k = 2 ∨ k = 3 ∨ k = 4 ∨ k = 5 ∨ k = 6 ∨ k = 7 by omega) with rfl | rfl | rfl | rfl | rfl | rfl | rfl | rfl <;> decide +kernel
  have hw : IntKind.u64.wrap (68719476736 + (k : Int) * 4096) = 68719476736 + (k : Int) * 4096 := by rw [IntKind.wrap_u64]; omega
  go_enter Try.func56, Try.ntmps56
  go_wp2
  go_ret
  exact ⟨rfl, rfl⟩
theorem New_ring (h : MQ w F gm rs nx) : Calls Try.prog 31 #[.pointer (some ⟨gm, 0, none⟩)] w fun e w' => ∃ F' g, e = .returned (.tuple #[.pointer (some ⟨g, 0, none⟩), .int .i64 0]) ∧ RQ w' F' g gm rs nx [0, 0, 0, 0, 0, 0, 0, 0] [] ∧ (∀ b, F' b → w.heap.size ≤ b ∨ F b) ∧ Below w.heap.size w w' := by
  have H := Lib.hid h
  clear h
  go_enter Try.func31, Try.ntmps31
  go_wp2
  go_ret2
  have hb := below_alloc (Below.refl w.heap.size w) (.cells #[.pointer (some ⟨gm, 0, none⟩), .int .i64 0, .int .i64 0, .int .i64 0, .int .i64 0, .int .i64 0, .int .i64 0, .int .i64 0, .int .i64 0, .slice none 0 0] 111)
  refine ⟨fun b => b = w.heap.size ∨ F b ∨ False, w.heap.size, rfl, ⟨⟨F, fun _ => False, .slice none 0 0, rfl, heap_alloc_new w _, H.out.below hb, ⟨[], World.ownsRow_nil _ _ _ _, fun k hk => by simp [Value.ownBlock] at hk, fun i l hi => by simp at hi⟩, fun _ _ h => h, fun h => by have := H.out.lt _ h; omega, fun h => h, fun b h => h.elim⟩, rfl, fun i hi => ?_⟩, fun b hb => ?_, hb⟩
  · have : i = 0 := by simpa using hi
    obtain ⟨es, _, hM⟩ := H.out
    have := hM.nx0
    omega
  · rcases hb with rfl | hb | hb
    · exact .inl (Nat.le_refl _)
    · exact .inr hb
    · exact hb.elim
set_option maxRecDepth 100000 in
set_option maxHeartbeats 4000000 in
theorem Open_ (h : RQ w F g gm rs nx ids out) : Calls Try.prog 33 #[.pointer (some ⟨g, 0, none⟩)] w fun e w' => e = .returned (.int .i64 ((ids.countP (fun i => decide (0 < i)) : Nat) : Int)) ∧ w = w' := by
  obtain ⟨⟨F1, Fo, sv, rfl, h1, h2, h3, h4, h5, h6, h7⟩, hl, hi⟩ := h
  obtain ⟨a0, a1, a2, a3, a4, a5, a6, a7, rfl⟩ := eight hl
  have c0 : w.cell? ⟨g, 0, none⟩ = some (.pointer (some ⟨gm, 0, none⟩)) := (blk_cell h1 0).trans rfl
  have c1 : w.cell? ⟨g, 1, none⟩ = some (.int .i64 a0) := (blk_cell h1 1).trans rfl
  have c2 : w.cell? ⟨g, 2, none⟩ = some (.int .i64 a1) := (blk_cell h1 2).trans rfl
  have c3 : w.cell? ⟨g, 3, none⟩ = some (.int .i64 a2) := (blk_cell h1 3).trans rfl
  have c4 : w.cell? ⟨g, 4, none⟩ = some (.int .i64 a3) := (blk_cell h1 4).trans rfl
  have c5 : w.cell? ⟨g, 5, none⟩ = some (.int .i64 a4) := (blk_cell h1 5).trans rfl
  have c6 : w.cell? ⟨g, 6, none⟩ = some (.int .i64 a5) := (blk_cell h1 6).trans rfl
  have c7 : w.cell? ⟨g, 7, none⟩ = some (.int .i64 a6) := (blk_cell h1 7).trans rfl
  have c8 : w.cell? ⟨g, 8, none⟩ = some (.int .i64 a7) := (blk_cell h1 8).trans rfl
  clear h1 h2 h3 h4 h5 h6 h7 hl hi
  go_enter Try.func33, Try.ntmps33
  go_wp2
  go_loopw [3, 12] (fun v i wr => ∃ (k : Nat) (c : Int), k ≤ 8 ∧ i = .int .i64 (k : Int) ∧ v = .int .i64 c ∧ 0 ≤ c ∧ c ≤ (k : Int) ∧ Hid (c = ((([a0, a1, a2, a3, a4, a5, a6, a7].take k).countP (fun i => decide (0 < i)) : Nat) : Int)) ∧ w = wr) (fun _ i _ => 8 - (intOf i).toNat)
  case atStart => exact ⟨0, 0, by omega, rfl, rfl, Int.le_refl _, Int.le_refl _, Lib.hid rfl, rfl⟩
  case round =>
    obtain ⟨k, c, hk, rfl, rfl, hc0, hck, HS, rfl⟩ := hrel
    have hw1 : wrap64 (c + 1) = c + 1 := by unfold wrap64; omega
    by_cases hlt : k < 8
    · have hidx := fun W => idx_run a0 a1 a2 a3 a4 a5 a6 a7 k hlt W
      have hget : [a0, a1, a2, a3, a4, a5, a6, a7][k]? = some ([a0, a1, a2, a3, a4, a5, a6, a7].getD k 0) := by rw [List.getD_eq_getElem?_getD, List.getElem?_eq_getElem (by simpa using hlt)]; rfl
      have HG := Lib.hid hget
      clear hget
      generalize [a0, a1, a2, a3, a4, a5, a6, a7].getD k 0 = x at *
      have hcs : (([a0, a1, a2, a3, a4, a5, a6, a7].take (k + 1)).countP (fun i => decide (0 < i)) : Nat) = ([a0, a1, a2, a3, a4, a5, a6, a7].take k).countP (fun i => decide (0 < i)) + if 0 < x then 1 else 0 := by
        rw [List.take_add_one, List.countP_append, HG.out]
        simp
      have HCS := Lib.hid hcs
      clear hcs
      by_cases hx : 0 < x
      · have HS2 := Lib.hid (show c + 1 = ((([a0, a1, a2, a3, a4, a5, a6, a7].take (k + 1)).countP (fun i => decide (0 < i)) : Nat) : Int) by rw [HCS.out, if_pos hx, HS.out]; simp)
        clear HS HCS HG
        go_wp2
        case roundEnd => exact ⟨⟨k + 1, c + 1, by omega, by go_num, rfl, by omega, by omega, HS2, trivial⟩, by simp [intOf]; omega⟩
      · have HS2 := Lib.hid (show c = ((([a0, a1, a2, a3, a4, a5, a6, a7].take (k + 1)).countP (fun i => decide (0 < i)) : Nat) : Int) by rw [HCS.out, if_neg hx, HS.out]; simp)
        clear HS HCS HG
        go_wp2
        case roundEnd => exact ⟨⟨k + 1, c, by omega, by go_num, rfl, by omega, by omega, HS2, trivial⟩, by simp [intOf]; omega⟩
    · have HV : Hid (((([a0, a1, a2, a3, a4, a5, a6, a7]).countP (fun i => decide (0 < i)) : Nat) : Int) = c) := Lib.hid (by rw [HS.out, List.take_of_length_le (by simp; omega)])
      go_wp2
      go_ret
      exact ⟨congrArg (fun i => Ending.returned (.int .i64 i)) HV.out.symm, rfl⟩
end
end Go.Proofs.Ytpjgaacdohiomaa.RingA
