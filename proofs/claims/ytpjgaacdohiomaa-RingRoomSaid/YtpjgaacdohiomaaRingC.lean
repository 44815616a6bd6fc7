/- ring: end, Discard, walked by hand. -/
import Derived.Test.YtpjgaacdohiomaaRingB
namespace Go.Proofs.Ytpjgaacdohiomaa.RingC
open Go.RowKit Go.Proofs.Ytpjgaacdohiomaa.PMemCopies Go.Proofs.YtpjgaacdohiomaaW.PrintWords Go.Proofs.YtpjgaacdohiomaaW.PrintLast Go.Proofs.YtpjgaacdohiomaaW.PrintMore Go.Proofs.Ytpjgaacdohiomaa.Mw Go.Proofs.Ytpjgaacdohiomaa.Mem1 Go.Proofs.Ytpjgaacdohiomaa.Mem3 Go.Proofs.Ytpjgaacdohiomaa.MemB Go.Proofs.Ytpjgaacdohiomaa.MemC Go.Proofs.Ytpjgaacdohiomaa.MemQ Go.Proofs.Ytpjgaacdohiomaa.MemK Go.Proofs.Ytpjgaacdohiomaa.RingA Go.Proofs.Ytpjgaacdohiomaa.RingB
set_option linter.unusedVariables false
set_option linter.unusedSimpArgs false
theorem place_inj {k k' : Nat} (h : place k = place k') : k = k' := by unfold place at h; omega
/-- Bytes handed out: in blocks of their own. -/
def HandV (w w' : World) (F' : Nat → Prop) (v : Value) (l : List Int) : Prop := ∃ Fv, KeptV w' Fv v l ∧ ∀ b, Fv b → w.heap.size ≤ b ∧ ¬ F' b ∧ b < w'.heap.size
/-- What the end of a record answers and makes. -/
def EndPost (w : World) (F : Nat → Prop) (g gm : Nat) (rs : List Rg) (nx : Int) (ids : List Int) (out : List (List Int)) (a : Int) (e : Ending) (w' : World) : Prop :=
  ((∀ k, k < 8 → ¬ (0 < ids.getD k 0 ∧ place k = a)) → e = .returned (.tuple #[.slice none 0 0, .int .i64 14]) ∧ w = w') ∧
  ∀ k, k < 8 → 0 < ids.getD k 0 → place k = a → ∃ v F', e = .returned (.tuple #[v, .int .i64 0]) ∧ RQ w' F' g gm (killQ rs (ids.getD k 0 - 1)).2 nx (ids.set k 0) out ∧ Step w w' F F' ∧ HandV w w' F' v (bytesQ rs (ids.getD k 0 - 1)).2
section
variable {w w' : World} {F : Nat → Prop} {g gm : Nat} {rs : List Rg} {nx : Int} {ids : List Int} {out : List (List Int)}
theorem end_none {a : Int} (h : ∀ k, k < 8 → ¬ (0 < ids.getD k 0 ∧ place k = a)) {e : Ending} (he : e = .returned (.tuple #[.slice none 0 0, .int .i64 14])) : EndPost w F g gm rs nx ids out a e w :=
  ⟨fun _ => ⟨he, rfl⟩, fun k hk h0 h1 => absurd ⟨h0, h1⟩ (h k hk)⟩
theorem end_at {a : Int} {k : Nat} (hk : k < 8) (h0 : 0 < ids.getD k 0) (h1 : place k = a) {e : Ending} {v : Value} {F' : Nat → Prop}
    (he : e = .returned (.tuple #[v, .int .i64 0])) (hR : RQ w' F' g gm (killQ rs (ids.getD k 0 - 1)).2 nx (ids.set k 0) out) (hs : Step w w' F F') (hv : HandV w w' F' v (bytesQ rs (ids.getD k 0 - 1)).2) : EndPost w F g gm rs nx ids out a e w' := by
  refine ⟨fun h => absurd ⟨h0, h1⟩ (h k hk), fun k' hk' h0' h1' => ?_⟩
  obtain rfl := place_inj (h1.trans h1'.symm)
  exact ⟨v, F', he, hR, hs, hv⟩
theorem bv_hand {w w1 w2 : World} {v : Value} {l : List Int} {F1 F2 : Nat → Prop} (h : BV w1 w.heap.size v l) (hs : Step w1 w2 F1 F2) (hF : ∀ b, F1 b → b < w.heap.size) {G : Nat → Prop} (hG : ∀ b, G b → b < w.heap.size) : HandV w w2 (fun b => G b ∨ F2 b) v l := by
  rcases h with h | ⟨b, c, h1, h2, h3, h4⟩
  · exact ⟨fun _ => False, .inl h, fun b hb => hb.elim⟩
  · refine ⟨fun x => x = b, .inr ⟨b, c, h1, h2, rfl, hs.row h4 (fun hb => by have := hF b hb; omega)⟩, fun x hx => ?_⟩
    subst hx
    have hl := h4.lt
    refine ⟨h3, fun hb => ?_, Nat.lt_of_lt_of_le hl hs.size⟩
    rcases hb with hb | hb
    · have := hG x hb; omega
    · rcases hs.foot x hb with h5 | h5
      · have := hF x h5; omega
      · omega
theorem hand_set {w w3 : World} {G G' : Nat → Prop} {v u : Value} {l : List Int} {i : Nat} (h : HandV w w3 G v l) (hg : G g) (hG : ∀ b, G' b → G b) : HandV w (w3.setCell ⟨g, i, none⟩ u) G' v l := by
  obtain ⟨Fv, h1, h2⟩ := h
  refine ⟨Fv, h1.keep (fun b hb => Below.heap_setCell w3 ⟨g, i, none⟩ u b (fun e => (h2 b hb).2.1 (by have e : b = g := e; rw [e]; exact hg))) (fun _ h => h), fun b hb => ?_⟩
  obtain ⟨h3, h4, h5⟩ := h2 b hb
  exact ⟨h3, fun h => h4 (hG b h), by simpa [World.setCell] using h5⟩
set_option maxRecDepth 100000 in
set_option maxHeartbeats 8000000 in
theorem end_go (h : RQ w F g gm rs nx ids out) (hx : nx < 1000000) (a : Int) :
    Calls Try.prog 57 #[.pointer (some ⟨g, 0, none⟩), .int .u64 a] w fun e w' => EndPost w F g gm rs nx ids out a e w' := by
  obtain ⟨⟨F1, Fo, sv, rfl, h1, h2, h3, h4, h5, h6, h7⟩, hl, hi⟩ := h
  have HW := Lib.hid (fun (w' : World) (F1' : Nat → Prop) (rs' : List Rg) (nx' : Int) (hM : MQ w' F1' gm rs' nx') (hs : Step w w' F1 F1') (hi : ∀ i ∈ ids, 0 ≤ i ∧ i ≤ nx') => RQ.went h1 h2.lt h3 h4 h5 h6 h7 hM hs hl hi)
  have HI := Lib.hid hi
  have HL := Lib.hid hl
  have HNG := Lib.hid h5
  have HMQ := Lib.hid h2
  have HFO := Lib.hid h7
  have c0 : w.cell? ⟨g, 0, none⟩ = some (.pointer (some ⟨gm, 0, none⟩)) := (blk_cell h1 0).trans rfl
  have HSELF := Lib.hid h1
  obtain ⟨a0, a1, a2, a3, a4, a5, a6, a7, rfl⟩ := eight hl
  have c1 : w.cell? ⟨g, 1, none⟩ = some (.int .i64 a0) := (blk_cell h1 1).trans rfl
  have c2 : w.cell? ⟨g, 2, none⟩ = some (.int .i64 a1) := (blk_cell h1 2).trans rfl
  have c3 : w.cell? ⟨g, 3, none⟩ = some (.int .i64 a2) := (blk_cell h1 3).trans rfl
  have c4 : w.cell? ⟨g, 4, none⟩ = some (.int .i64 a3) := (blk_cell h1 4).trans rfl
  have c5 : w.cell? ⟨g, 5, none⟩ = some (.int .i64 a4) := (blk_cell h1 5).trans rfl
  have c6 : w.cell? ⟨g, 6, none⟩ = some (.int .i64 a5) := (blk_cell h1 6).trans rfl
  have c7 : w.cell? ⟨g, 7, none⟩ = some (.int .i64 a6) := (blk_cell h1 7).trans rfl
  have c8 : w.cell? ⟨g, 8, none⟩ = some (.int .i64 a7) := (blk_cell h1 8).trans rfl
  have HX := Lib.hid hx
  clear h1 h2 h3 h4 h5 h6 h7 hl hi hx
  go_enter Try.func57, Try.ntmps57
  go_wp2
  clear c1 c2 c3 c4 c5 c6 c7 c8
  go_loopw [16] (fun i wr => ∃ k : Nat, k ≤ 8 ∧ i = .int .i64 (k : Int) ∧ Hid (∀ j, j < k → ¬ (0 < [a0, a1, a2, a3, a4, a5, a6, a7].getD j 0 ∧ place j = a)) ∧ w = wr) (fun i _ => 8 - (intOf i).toNat)
  case atStart => exact ⟨0, by omega, rfl, Lib.hid (fun j hj => by omega), rfl⟩
  case round =>
    obtain ⟨k, hk, rfl, HS, rfl⟩ := hrel
    by_cases hlt : k < 8
    · have hidx := fun W => idx_run a0 a1 a2 a3 a4 a5 a6 a7 k hlt W
      obtain ⟨x, hx⟩ : ∃ x, x = [a0, a1, a2, a3, a4, a5, a6, a7].getD k 0 := ⟨_, rfl⟩
      rw [← hx] at hidx
      have HX1 := Lib.hid hx
      have hxb : 0 ≤ x ∧ x ≤ nx := HI.out x (by rw [hx, List.getD_eq_getElem?_getD, List.getElem?_eq_getElem (by simpa using hlt)]; exact List.getElem_mem _)
      clear hx
      have hmiss : ¬ (0 < x ∧ place k = a) → ∀ j, j < k + 1 → ¬ (0 < [a0, a1, a2, a3, a4, a5, a6, a7].getD j 0 ∧ place j = a) := fun hm j hj => by
        by_cases hjk : j < k
        · exact HS.out j hjk
        · obtain rfl : j = k := by omega
          rw [← HX1.out]; exact hm
      have HMI := Lib.hid hmiss
      clear hmiss
      by_cases hx0 : 0 < x
      · have HPL := Lib.hid (place_ k hlt w)
        obtain ⟨p, hp⟩ : ∃ p, p = place k := ⟨_, rfl⟩
        rw [← hp] at HPL HMI
        have HP := Lib.hid hp
        clear hp
        by_cases hpa : p = a
        · have w1 : wrap64 (x - 1) = x - 1 := by have := HX.out; unfold wrap64; omega
          have b1 : (p == a) = true := by simpa using hpa
          have HBY := Lib.hid (q_bytes HMQ.out (x - 1))
          have HXB := Lib.hid hxb
          have HPA := Lib.hid hpa
          have HX0 := Lib.hid hx0
          subst hpa
          clear HMI
          go_wp2_with fail
          refine HPL.out.mono ?_
          rintro e w1 ⟨rfl, rfl⟩
          go_wp2_with fail
          refine HBY.out.mono ?_
          rintro e w2 ⟨v, rfl, hv, hB⟩
          have HV := Lib.hid hv
          have HB := Lib.hid hB
          have HK := Lib.hid (q_kill (HMQ.out.below hB) (x - 1))
          have d0 := old hB c0
          clear hv hB HBY
          go_wp2_with fail
          refine HK.out.mono ?_
          rintro e w3 ⟨rfl, F2, hM3, hS3⟩
          have HS3 := Lib.hid ((Step.of_below HB.out F1).trans hS3)
          have HR3 := Lib.hid (HW.out _ _ _ _ hM3 HS3.out HI.out)
          have HHV := Lib.hid (show HandV w w3 (fun b => (b = g ∨ Fo b) ∨ F2 b) v _ from bv_hand HV.out hS3 HMQ.out.lt (fun b hb => hb.elim (fun h => h ▸ blk_lt HSELF.out) (HFO.out b)))
          have hself3 := (HS3.out.block g (blk_lt HSELF.out) HNG.out).trans HSELF.out
          have d1 : w3.cell? ⟨g, 1 + k, none⟩ = some (.int .i64 ([a0, a1, a2, a3, a4, a5, a6, a7].getD k 0)) := (blk_cell hself3 (1 + k)).trans (ring_get gm _ sv k hlt HL.out)
          have d2 := blk_frozen hself3 (1 + k)
          clear hM3 hS3 hself3 HK HV
          go_wp2
          go_ret2
          obtain ⟨z1, z2⟩ := HR3.out
          obtain ⟨z3, z4⟩ := RQ.put z1 k hlt 0 (by have := HXB.out; omega)
          refine end_at (v := v) hlt (by rw [← HX1.out]; exact HX0.out) HP.out.symm rfl ?_ (z2.trans z4) ?_
          · rw [← HX1.out]; exact z3
          · rw [← HX1.out]; exact hand_set HHV.out (.inl (.inl rfl)) (fun b hb => hb.elim (fun h => .inl (.inl h)) (fun h => h.elim (fun h => .inr h) (fun h => .inl (.inr h))))
        · have b1 : (p == a) = false := by simpa using hpa
          have HS2 := Lib.hid (HMI.out (fun h => hpa h.2))
          clear HS HMI
          go_wp2_with fail
          refine HPL.out.mono ?_
          rintro e w1 ⟨rfl, rfl⟩
          go_wp2
          case roundEnd => exact ⟨⟨k + 1, by omega, by go_num, HS2, trivial⟩, by simp [intOf]; omega⟩
      · have HS2 := Lib.hid (HMI.out (fun h => hx0 h.1))
        clear HS HMI
        go_wp2
        case roundEnd => exact ⟨⟨k + 1, by omega, by go_num, HS2, trivial⟩, by simp [intOf]; omega⟩
    · have HF := Lib.hid (show ∀ j, j < 8 → ¬ (0 < [a0, a1, a2, a3, a4, a5, a6, a7].getD j 0 ∧ place j = a) from fun j hj => HS.out j (by omega))
      clear HS
      go_wp2
      go_ret2
      exact end_none HF.out rfl
/-- What the end's error is. -/
theorem Discard_go (h : RQ w F g gm rs nx ids out) (hx : nx < 1000000) (a : Int) :
    Calls Try.prog 34 #[.pointer (some ⟨g, 0, none⟩), .int .u64 a] w fun e w' =>
      ((∀ k, k < 8 → ¬ (0 < ids.getD k 0 ∧ place k = a)) → e = .returned (.int .i64 14) ∧ w = w') ∧
      ∀ k, k < 8 → 0 < ids.getD k 0 → place k = a → ∃ F', e = .returned (.int .i64 0) ∧ RQ w' F' g gm (killQ rs (ids.getD k 0 - 1)).2 nx (ids.set k 0) out ∧ Step w w' F F' := by
  have hE := end_go h hx a
  by_cases hex : ∃ k, k < 8 ∧ 0 < ids.getD k 0 ∧ place k = a
  · obtain ⟨k, hk, h0, h1⟩ := hex
    have HE : Hid (Calls Try.prog 57 #[.pointer (some ⟨g, 0, none⟩), .int .u64 a] w fun e w' => ∃ v F', e = .returned (.tuple #[v, .int .i64 0]) ∧ RQ w' F' g gm (killQ rs (ids.getD k 0 - 1)).2 nx (ids.set k 0) out ∧ Step w w' F F') := Lib.hid (hE.mono fun e w' he => by
      obtain ⟨v, F', q1, q2, q3, _⟩ := he.2 k hk h0 h1
      exact ⟨v, F', q1, q2, q3⟩)
    have HH := Lib.hid (And.intro hk (And.intro h0 h1))
    clear hE h hx hk h0 h1
    refine Calls.mono (R := fun e w' => ∃ F', e = .returned (.int .i64 0) ∧ RQ w' F' g gm (killQ rs (ids.getD k 0 - 1)).2 nx (ids.set k 0) out ∧ Step w w' F F') ?_ (fun e w' hp => ⟨fun hn => absurd ⟨HH.out.2.1, HH.out.2.2⟩ (hn k HH.out.1), fun k' hk' h0' h1' => by
      obtain rfl := place_inj (HH.out.2.2.trans h1'.symm)
      exact hp⟩)
    go_enter Try.func34, Try.ntmps34
    go_wp2_with fail
    refine HE.out.mono ?_
    rintro e w1 ⟨v, F', rfl, q1, q2⟩
    have HQ := Lib.hid (And.intro q1 q2)
    clear q1 q2 HE
    go_wp2
    go_ret
    exact ⟨F', rfl, HQ.out⟩
  · have hn : ∀ k, k < 8 → ¬ (0 < ids.getD k 0 ∧ place k = a) := fun k hk h => hex ⟨k, hk, h⟩
    have HE := Lib.hid (hE.mono fun e w' he => he.1 hn)
    have HH := Lib.hid hn
    clear hE h hx hex hn
    refine Calls.mono (R := fun e w' => e = .returned (.int .i64 14) ∧ w = w') ?_ (fun e w' hp => ⟨fun _ => hp, fun k hk h0 h1 => absurd ⟨h0, h1⟩ (HH.out k hk)⟩)
    go_enter Try.func34, Try.ntmps34
    go_wp2_with fail
    refine HE.out.mono ?_
    rintro e w1 ⟨rfl, rfl⟩
    go_wp2
    go_ret
    exact ⟨rfl, rfl⟩
end
end Go.Proofs.Ytpjgaacdohiomaa.RingC
