/- ring: Reserve, walked by hand. -/
import Derived.Test.YtpjgaacdohiomaaRingA
namespace Go.Proofs.Ytpjgaacdohiomaa.RingB
open Go.RowKit Go.Proofs.Ytpjgaacdohiomaa.PMemCopies Go.Proofs.YtpjgaacdohiomaaW.PrintWords Go.Proofs.YtpjgaacdohiomaaW.PrintLast Go.Proofs.YtpjgaacdohiomaaW.PrintMore Go.Proofs.Ytpjgaacdohiomaa.Mw Go.Proofs.Ytpjgaacdohiomaa.Mem1 Go.Proofs.Ytpjgaacdohiomaa.Mem3 Go.Proofs.Ytpjgaacdohiomaa.MemB Go.Proofs.Ytpjgaacdohiomaa.MemQ Go.Proofs.Ytpjgaacdohiomaa.MemK Go.Proofs.Ytpjgaacdohiomaa.RingA
set_option linter.unusedVariables false
set_option linter.unusedSimpArgs false
theorem ring_set (gm : Nat) (ids : List Int) (sv : Value) (k : Nat) (hk : k < 8) (x : Int) (hl : ids.length = 8) : (ringCells gm ids sv).setIfInBounds (1 + k) (.int .i64 x) = ringCells gm (ids.set k x) sv := by
  obtain ⟨a0, a1, a2, a3, a4, a5, a6, a7, rfl⟩ := eight hl
  rcases (show k = 0 ∨ k = 1 ∨ k = 2 ∨ k = 3 ∨ k = 4 ∨ k = 5 ∨ k = 6 ∨ k = 7 by omega) with rfl | rfl | rfl | rfl | rfl | rfl | rfl | rfl <;> rfl
theorem ring_get (gm : Nat) (ids : List Int) (sv : Value) (k : Nat) (hk : k < 8) (hl : ids.length = 8) : (ringCells gm ids sv)[1 + k]? = some (.int .i64 (ids.getD k 0)) := by
  obtain ⟨a0, a1, a2, a3, a4, a5, a6, a7, rfl⟩ := eight hl
  rcases (show k = 0 ∨ k = 1 ∨ k = 2 ∨ k = 3 ∨ k = 4 ∨ k = 5 ∨ k = 6 ∨ k = 7 by omega) with rfl | rfl | rfl | rfl | rfl | rfl | rfl | rfl <;> rfl
theorem addQ_id (rs : List Rg) (nx b s p : Int) : ((addQ rs nx b s p).2.1 = 0 → (addQ rs nx b s p).1 = nx ∧ (addQ rs nx b s p).2.2.2 = nx + 1) ∧ ((addQ rs nx b s p).2.1 ≠ 0 → (addQ rs nx b s p).2.2.2 = nx) := by
  unfold addQ
  split
  · exact ⟨fun h => absurd h (by simp), fun _ => rfl⟩
  split
  · exact ⟨fun h => absurd h (by simp), fun _ => rfl⟩
  split
  · exact ⟨fun h => absurd h (by simp), fun _ => rfl⟩
  · exact ⟨fun _ => ⟨rfl, rfl⟩, fun h => absurd rfl h⟩
section
variable {w w' : World} {F : Nat → Prop} {g gm : Nat} {rs : List Rg} {nx : Int} {ids : List Int} {out : List (List Int)}
theorem Reserve_arg (g : Nat) (s : Int) (w : World) (hs : 0 ≤ s) (h : s = 0 ∨ 64 < s) : Calls Try.prog 32 #[.pointer (some ⟨g, 0, none⟩), .int .u64 s] w fun e w' => e = .returned (.tuple #[.int .u64 0, .int .i64 2]) ∧ w = w' := by
  by_cases h0 : s = 0
  · subst h0
    go_enter Try.func32, Try.ntmps32
    go_wp2
    go_ret2
    exact ⟨rfl, rfl⟩
  · have n1 : (s == 0) = false := by rw [beq_eq_false_iff_ne]; exact h0
    have n2 : s > 64 := by omega
    clear h
    go_enter Try.func32, Try.ntmps32
    go_wp2
    go_ret2
    exact ⟨rfl, rfl⟩
/-- The ring behind a call of its memory. -/
theorem RQ.went {F1 Fo F1' : Nat → Prop} {sv : Value} {rs' : List Rg} {nx' : Int}
    (h1 : w.heap[g]? = some (.cells (ringCells gm ids sv) 111 (0, 0))) (h2 : ∀ b, F1 b → b < w.heap.size) (h3 : OutV w Fo sv out) (h4 : ∀ b, F1 b → ¬ Fo b) (h5 : ¬ F1 g) (h6 : ¬ Fo g) (h7 : ∀ b, Fo b → b < w.heap.size)
    (hM : MQ w' F1' gm rs' nx') (hs : Step w w' F1 F1') (hl : ids.length = 8) (hi : ∀ i ∈ ids, 0 ≤ i ∧ i ≤ nx') :
    RQ w' (fun b => b = g ∨ F1' b ∨ Fo b) g gm rs' nx' ids out ∧ Step w w' (fun b => b = g ∨ F1 b ∨ Fo b) (fun b => b = g ∨ F1' b ∨ Fo b) := by
  have hgl := blk_lt h1
  refine ⟨⟨⟨F1', Fo, sv, rfl, (hs.block g hgl h5).trans h1, hM, h3.keep (fun b hb => hs.block b (h7 b hb) (fun h => h4 b h hb)) (fun _ h => h), fun b hb hb2 => (hs.foot b hb).elim (fun h => h4 b h hb2) (fun h => by have := h7 b hb2; omega), fun hb => (hs.foot g hb).elim h5 (fun h => by omega), h6, fun b hb => Nat.lt_of_lt_of_le (h7 b hb) hs.size⟩, hl, hi⟩, ⟨hs.os, hs.tape, hs.output, hs.size, fun b hb hF => hs.block b hb (fun h => hF (.inr (.inl h))), fun b hb => ?_⟩⟩
  rcases hb with rfl | hb | hb
  · exact .inl (.inl rfl)
  · exact (hs.foot b hb).imp (fun h => .inr (.inl h)) id
  · exact .inl (.inr (.inr hb))
/-- An id's slot is written. -/
theorem RQ.put (h : RQ w F g gm rs nx ids out) (k : Nat) (hk : k < 8) (x : Int) (hx : 0 ≤ x ∧ x ≤ nx) : RQ (w.setCell ⟨g, 1 + k, none⟩ (.int .i64 x)) F g gm rs nx (ids.set k x) out ∧ Step w (w.setCell ⟨g, 1 + k, none⟩ (.int .i64 x)) F F := by
  obtain ⟨⟨F1, Fo, sv, rfl, h1, h2, h3, h4, h5, h6, h7⟩, hl, hi⟩ := h
  have hk2 : ∀ b, b ≠ g → (w.setCell ⟨g, 1 + k, none⟩ (.int .i64 x)).heap[b]? = w.heap[b]? := fun b hb => Below.heap_setCell w ⟨g, 1 + k, none⟩ _ b hb
  have hs : Step w (w.setCell ⟨g, 1 + k, none⟩ (.int .i64 x)) (fun b => b = g) (fun b => b = g) := ⟨rfl, rfl, rfl, by simp [World.setCell], fun b _ hb => hk2 b hb, fun b hb => .inl hb⟩
  refine ⟨⟨⟨F1, Fo, sv, rfl, ?_, h2.step hs (fun b hb e => h5 (e ▸ hb)), h3.keep (fun b hb => hk2 b (fun e => h6 (e ▸ hb))) (fun _ h => h), h4, h5, h6, fun b hb => by have := h7 b hb; simpa [World.setCell] using this⟩, by rw [List.length_set]; exact hl, fun i hi' => (List.mem_or_eq_of_mem_set hi').elim (hi i) (fun e => e ▸ hx)⟩, ⟨rfl, rfl, rfl, by simp [World.setCell], fun b _ hb => hk2 b (fun e => hb (.inl e)), fun b hb => .inl hb⟩⟩
  have := heap_setCell_at (i := 1 + k) (v := .int .i64 x) h1
  rw [ring_set gm ids sv k hk x hl] at this
  exact this
/-- What a reservation answers and makes. -/
def ResPost (w : World) (F : Nat → Prop) (g gm : Nat) (rs : List Rg) (nx : Int) (ids : List Int) (out : List (List Int)) (s : Int) (e : Ending) (w' : World) : Prop :=
      ((∀ k, k < 8 → 0 < ids.getD k 0) → e = .returned (.tuple #[.int .u64 0, .int .i64 71]) ∧ w = w') ∧
      ∀ k, k < 8 → ids.getD k 0 = 0 → (∀ j, j < k → 0 < ids.getD j 0) →
        ((addQ rs nx (place k) s 3).2.1 ≠ 0 → e = .returned (.tuple #[.int .u64 0, .int .i64 12]) ∧ ∃ F', RQ w' F' g gm (addQ rs nx (place k) s 3).2.2.1 (addQ rs nx (place k) s 3).2.2.2 ids out ∧ Step w w' F F') ∧
        ((addQ rs nx (place k) s 3).2.1 = 0 → e = .returned (.tuple #[.int .u64 (place k), .int .i64 0]) ∧ ∃ F', RQ w' F' g gm (addQ rs nx (place k) s 3).2.2.1 (addQ rs nx (place k) s 3).2.2.2 (ids.set k ((addQ rs nx (place k) s 3).1 + 1)) out ∧ Step w w' F F')
theorem res_full {s : Int} (h : ∀ k, k < 8 → 0 < ids.getD k 0) {e : Ending} (he : e = .returned (.tuple #[.int .u64 0, .int .i64 71])) : ResPost w F g gm rs nx ids out s e w :=
  ⟨fun _ => ⟨he, rfl⟩, fun k hk h0 _ => by have := h k hk; omega⟩
theorem res_at {s : Int} {k : Nat} (hk : k < 8) (h0 : ids.getD k 0 = 0) (hj : ∀ j, j < k → 0 < ids.getD j 0) {e : Ending}
    (hp : ((addQ rs nx (place k) s 3).2.1 ≠ 0 → e = .returned (.tuple #[.int .u64 0, .int .i64 12]) ∧ ∃ F', RQ w' F' g gm (addQ rs nx (place k) s 3).2.2.1 (addQ rs nx (place k) s 3).2.2.2 ids out ∧ Step w w' F F') ∧
        ((addQ rs nx (place k) s 3).2.1 = 0 → e = .returned (.tuple #[.int .u64 (place k), .int .i64 0]) ∧ ∃ F', RQ w' F' g gm (addQ rs nx (place k) s 3).2.2.1 (addQ rs nx (place k) s 3).2.2.2 (ids.set k ((addQ rs nx (place k) s 3).1 + 1)) out ∧ Step w w' F F')) : ResPost w F g gm rs nx ids out s e w' := by
  refine ⟨fun h => by have := h k hk; omega, fun k' hk' h0' hj' => ?_⟩
  have : k' = k := by
    rcases Nat.lt_trichotomy k' k with h | h | h
    · have := hj k' h; omega
    · exact h
    · have := hj' k h; omega
  subst this
  exact hp
set_option maxRecDepth 100000 in
set_option maxHeartbeats 8000000 in
theorem Reserve_go (h : RQ w F g gm rs nx ids out) (hx : nx < 1000000) (s : Int) (hs : 1 ≤ s ∧ s ≤ 64) :
    Calls Try.prog 32 #[.pointer (some ⟨g, 0, none⟩), .int .u64 s] w fun e w' =>
      ResPost w F g gm rs nx ids out s e w' := by
  have H := Lib.hid h
  obtain ⟨⟨F1, Fo, sv, rfl, h1, h2, h3, h4, h5, h6, h7⟩, hl, hi⟩ := h
  have HW := Lib.hid (fun (w' : World) (F1' : Nat → Prop) (rs' : List Rg) (nx' : Int) (hM : MQ w' F1' gm rs' nx') (hs : Step w w' F1 F1') (hi : ∀ i ∈ ids, 0 ≤ i ∧ i ≤ nx') => RQ.went h1 h2.lt h3 h4 h5 h6 h7 hM hs hl hi)
  have HI := Lib.hid hi
  have HL := Lib.hid hl
  have HNG := Lib.hid h5
  have HMQ := Lib.hid h2
  have c0 : w.cell? ⟨g, 0, none⟩ = some (.pointer (some ⟨gm, 0, none⟩)) := (blk_cell h1 0).trans rfl
  have HSELF := Lib.hid h1
  obtain ⟨a0, a1, a2, a3, a4, a5, a6, a7, rfl⟩ := eight hl
  have c1 : w.cell? ⟨g, 1, none⟩ = some (.int .i64 a0) := (blk_cell h1 1).trans rfl
  have c2 : w.cell? ⟨g, 2, none⟩ = some (.int .i64 a1) := (blk_cell h1 2).trans rfl
  have c3 : w.cell? ⟨g, 3, none⟩ = some (.int .i64 a2) := (blk_cell h1 3).trans rfl
  have c4 : w.cell? ⟨g, 4, none⟩ = some (.int .i64 a3) := (blk_cell h1 4).trans rfl
  have c5 : w.cell? ⟨g, 5, none⟩ = some (.int .i64 a4) := (blk_cell h1 5).trans rfl
  have c6 : w.cell? ⟨g, 6, none⟩ = some (.int .i64 a5) := (blk_cell h1 6).trans rfl
  have c7 : w.cell? ⟨g, 7, none⟩ = some (.int .i64 a6) := (blk_cell h1 7).trans rfl
  have c8 : w.cell? ⟨g, 8, none⟩ = some (.int .i64 a7) := (blk_cell h1 8).trans rfl
  have n1 : (s == 0) = false := by rw [beq_eq_false_iff_ne]; omega
  have n2 : ¬ s > 64 := by omega
  have n3 : wrap64 s = s := by unfold wrap64; omega
  have n4 : IntKind.i64.wrap s = s := by rw [IntKind.wrap_i64]; omega
  have HX := Lib.hid hx
  clear h1 h2 h3 h4 h5 h6 h7 hl hi hx
  go_enter Try.func32, Try.ntmps32
  go_wp2
  clear c1 c2 c3 c4 c5 c6 c7 c8
  go_loopw [22] (fun i wr => ∃ k : Nat, k ≤ 8 ∧ i = .int .i64 (k : Int) ∧ Hid (∀ j, j < k → 0 < [a0, a1, a2, a3, a4, a5, a6, a7].getD j 0) ∧ w = wr) (fun i _ => 8 - (intOf i).toNat)
  case atStart => exact ⟨0, by omega, rfl, Lib.hid (fun j hj => by omega), rfl⟩
  case round =>
    obtain ⟨k, hk, rfl, HS, rfl⟩ := hrel
    by_cases hlt : k < 8
    · have hidx := fun W => idx_run a0 a1 a2 a3 a4 a5 a6 a7 k hlt W
      obtain ⟨x, hx⟩ : ∃ x, x = [a0, a1, a2, a3, a4, a5, a6, a7].getD k 0 := ⟨_, rfl⟩
      rw [← hx] at hidx
      have HX1 := Lib.hid hx
      clear hx
      by_cases hx0 : 0 < x
      · have HS2 := Lib.hid (show ∀ j, j < k + 1 → 0 < [a0, a1, a2, a3, a4, a5, a6, a7].getD j 0 from fun j hj => by
          by_cases hjk : j < k
          · exact HS.out j hjk
          · obtain rfl : j = k := by omega
            rw [← HX1.out]; exact hx0)
        clear HS
        go_wp2
        case roundEnd => exact ⟨⟨k + 1, by omega, by go_num, HS2, trivial⟩, by simp [intOf]; omega⟩
      · have hxe : x = 0 := by
          have hm : x ∈ [a0, a1, a2, a3, a4, a5, a6, a7] := by rw [HX1.out, List.getD_eq_getElem?_getD, List.getElem?_eq_getElem (by simpa using hlt)]; exact List.getElem_mem _
          have := HI.out x hm
          omega
        have HPL := Lib.hid (fun W => place_ k hlt W)
        have hpl : 0 ≤ place k ∧ place k < 18446744073709551616 := by unfold place; omega
        obtain ⟨p, hp⟩ : ∃ p, p = place k := ⟨_, rfl⟩
        rw [← hp] at HPL hpl
        have HP := Lib.hid hp
        have HADD : Hid (∀ W, (W = w ∨ W = w.drew) → Calls Try.prog 14 #[.pointer (some ⟨gm, 0, none⟩), .int .u64 p, .int .i64 s, .int .i64 3] W fun e w' => e = .returned (.tuple #[.int .i64 (addQ rs nx p s 3).1, .int .i64 (addQ rs nx p s 3).2.1]) ∧ ∃ F', MQ w' F' gm (addQ rs nx p s 3).2.2.1 (addQ rs nx p s 3).2.2.2 ∧ Step w w' F1 F') := Lib.hid fun W hW => by
          rcases hW with rfl | rfl
          · exact q_add HMQ.out HX.out p s 3 hpl (by omega)
          · exact (q_add (HMQ.out.drewN 1) HX.out p s 3 hpl (by omega)).mono fun e w' ⟨e1, F', e2, e3⟩ => ⟨e1, F', e2, Step.undrewN (n := 1) e3⟩
        obtain ⟨q1, q2⟩ := addQ_id rs nx p s 3
        obtain ⟨q, hq⟩ : ∃ q, q = addQ rs nx p s 3 := ⟨_, rfl⟩
        rw [← hq] at HADD q1 q2
        have HQ := Lib.hid hq
        clear hq hp hpl
        have HC0 := Lib.hid c0
        by_cases he : q.2.1 = 0
        · obtain ⟨q3, q4⟩ := q1 he
          have b1 : (q.2.1 != 0) = false := by simpa using he
          have HNX : Hid (0 ≤ nx) := Lib.hid (by obtain ⟨es, _, hM⟩ := HMQ.out; exact hM.nx0)
          have w1 : wrap64 (q.1 + 1) = q.1 + 1 := by have := HX.out; have := HNX.out; unfold wrap64; omega
          have w2' : wrap64 (nx + 1) = nx + 1 := by have := HX.out; have := HNX.out; unfold wrap64; omega
          have HE := Lib.hid he
          clear q1 q2
          go_wp2_with fail
          go_region_held3 (fun w' => w'.cell? ⟨g, 0, none⟩ = some (.pointer (some ⟨gm, 0, none⟩))) (first | exact HC0.out | exact HS2.out.cell HC0.out HNG.out) (first
            | (go_at_call 56
               refine (HPL.out _).mono ?_
               rintro e w1 ⟨rfl, rfl⟩)
            | (go_at_call 14
               refine (HADD.out _ ?_).mono ?_
               first | exact .inl rfl | exact .inr rfl
               rintro e w2 ⟨rfl, F2, hM2, hS2⟩
               have HM2 := Lib.hid hM2
               have HS2 := Lib.hid hS2
               clear hM2 hS2)
            | fail)
          all_goals
            rename Hid (MQ _ _ _ _ _) => HM2
            rename Hid (Step _ _ _ _) => HS2
            rename World => w2
            have hself2 := (HS2.out.block g (blk_lt HSELF.out) HNG.out).trans HSELF.out
            have d1 : w2.cell? ⟨g, 1 + k, none⟩ = some (.int .i64 ([a0, a1, a2, a3, a4, a5, a6, a7].getD k 0)) := (blk_cell hself2 (1 + k)).trans (ring_get gm _ sv k hlt HL.out)
            have d2 := blk_frozen hself2 (1 + k)
            have HR2 := Lib.hid (HW.out _ _ _ _ HM2.out HS2.out (fun i hi => by have := HI.out i hi; rw [q4]; omega))
            have HQ4 := Lib.hid (And.intro q3 q4)
            clear hself2
            go_wp2_with fail
            refine (HPL.out _).mono ?_
            rintro e w3 ⟨rfl, rfl⟩
            clear d1 d2
            go_wp2
            go_ret2
            refine res_at hlt (by rw [← HX1.out]; exact hxe) HS.out ?_
            rw [← HP.out, ← HQ.out]
            refine ⟨fun h => absurd HE.out h, fun _ => ⟨rfl, ?_⟩⟩
            obtain ⟨z1, z2⟩ := HR2.out
            obtain ⟨z3, z4⟩ := RQ.put z1 k hlt (nx + 1) (by rw [HQ4.out.2]; have := HNX.out; omega)
            rw [HQ4.out.1]
            exact ⟨_, z3, z2.trans z4⟩
        · have HQ2 := Lib.hid (q2 he)
          have b1 : (q.2.1 != 0) = true := by simpa using he
          have HE := Lib.hid he
          clear q1 q2
          go_wp2_with fail
          go_region_held3 (fun w' => w'.cell? ⟨g, 0, none⟩ = some (.pointer (some ⟨gm, 0, none⟩))) (first | exact HC0.out | exact HS2.out.cell HC0.out HNG.out) (first
            | (go_at_call 56
               refine (HPL.out _).mono ?_
               rintro e w1 ⟨rfl, rfl⟩)
            | (go_at_call 14
               refine (HADD.out _ ?_).mono ?_
               first | exact .inl rfl | exact .inr rfl
               rintro e w2 ⟨rfl, F2, hM2, hS2⟩
               have HM2 := Lib.hid hM2
               have HS2 := Lib.hid hS2
               clear hM2 hS2)
            | fail)
          all_goals
            go_wp2
            go_ret2
            rename Hid (Step _ _ _ _) => HS3
            refine res_at hlt (by rw [← HX1.out]; exact hxe) HS.out ?_
            rw [← HP.out, ← HQ.out]
            refine ⟨fun _ => ⟨rfl, _, HW.out _ _ _ _ ?_ HS3.out (by rw [HQ2.out]; exact HI.out)⟩, fun h => absurd h HE.out⟩
            assumption
    · have HF := Lib.hid (show ∀ j, j < 8 → 0 < [a0, a1, a2, a3, a4, a5, a6, a7].getD j 0 from fun j hj => HS.out j (by omega))
      clear HS
      go_wp2
      go_ret2
      exact res_full HF.out rfl
end
end Go.Proofs.Ytpjgaacdohiomaa.RingB
