/- ring: what must be answered ahead of everything else; the memory under the ring. -/
import Derived.Test.YtpjgaacdohiomaaRingE
namespace Go.Proofs.Ytpjgaacdohiomaa.RingF
open Go.RowKit Go.Proofs.Ytpjgaacdohiomaa.PMemCopies Go.Proofs.YtpjgaacdohiomaaW.PrintWords Go.Proofs.YtpjgaacdohiomaaW.PrintLast Go.Proofs.YtpjgaacdohiomaaW.PrintMore Go.Proofs.Ytpjgaacdohiomaa.Mw Go.Proofs.Ytpjgaacdohiomaa.Mem1 Go.Proofs.Ytpjgaacdohiomaa.Mem3 Go.Proofs.Ytpjgaacdohiomaa.Mem7 Go.Proofs.Ytpjgaacdohiomaa.MemB Go.Proofs.Ytpjgaacdohiomaa.MemC Go.Proofs.Ytpjgaacdohiomaa.MemQ Go.Proofs.Ytpjgaacdohiomaa.MemK Go.Proofs.Ytpjgaacdohiomaa.RingA Go.Proofs.Ytpjgaacdohiomaa.RingB Go.Proofs.Ytpjgaacdohiomaa.RingC Go.Proofs.Ytpjgaacdohiomaa.RingD Go.Proofs.Ytpjgaacdohiomaa.RingE
set_option linter.unusedVariables false
set_option linter.unusedSimpArgs false
section
variable {w w' : World} {F : Nat → Prop} {g gm : Nat} {rs : List Rg} {nx : Int} {ids : List Int} {out : List (List Int)}
/-- The memory under the ring, and the ring behind a call of it. -/
theorem rq_mem (h : RQ w F g gm rs nx ids out) : ∃ F1, MQ w F1 gm rs nx ∧ (∀ b, F1 b → F b) ∧ ∀ (w' : World) (F1' : Nat → Prop) (rs' : List Rg) (nx' : Int), MQ w' F1' gm rs' nx' → Step w w' F1 F1' → nx ≤ nx' → ∃ F', RQ w' F' g gm rs' nx' ids out ∧ Step w w' F F' := by
  obtain ⟨⟨F1, Fo, sv, rfl, h1, h2, h3, h4, h5, h6, h7⟩, hl, hi⟩ := h
  exact ⟨F1, h2, fun b hb => .inr (.inl hb), fun w' F1' rs' nx' hM hs hx => ⟨_, RQ.went h1 h2.lt h3 h4 h5 h6 h7 hM hs hl (fun i hi' => ⟨(hi i hi').1, Int.le_trans (hi i hi').2 hx⟩)⟩⟩
theorem ring_store (h : RQ w F g gm rs nx ids out) (a s v : Int) (ha : 0 ≤ a ∧ a < 18446744073709551616) (hv : 0 ≤ v ∧ v < 18446744073709551616) :
    Calls Try.prog 15 #[.pointer (some ⟨gm, 0, none⟩), .int .u64 a, .int .i64 s, .int .u64 v] w fun x w' => x = .returned (.int .i64 (storeQ rs a s v).1) ∧ ∃ F', RQ w' F' g gm (storeQ rs a s v).2 nx ids out ∧ Step w w' F F' := by
  obtain ⟨F1, hM, _, hg⟩ := rq_mem h
  exact (q_store hM a s v ha hv).mono fun x w' ⟨e1, e2, e3⟩ => ⟨e1, hg _ _ _ _ e2 e3 (Int.le_refl _)⟩
theorem ring_count (h : RQ w F g gm rs nx ids out) : Calls Try.prog 19 #[.pointer (some ⟨gm, 0, none⟩)] w fun e w' => e = .returned (.int .i64 (rs.length : Int)) ∧ w = w' := by
  obtain ⟨F1, hM, _, _⟩ := rq_mem h
  exact q_count hM
/-- What Out answers, by its places. -/
theorem out_at {wr : World} {u : Value} (h : OutS w wr u out) : (∃ so sc, u = .slice so out.length sc) ∧ Below w.heap.size w wr ∧ ∀ (i : Nat) (l : List Int), out[i]? = some l → l ≠ [] → ∃ bl c b cb, u = .slice (some ⟨bl, 0, none⟩) out.length c ∧ out.length ≤ c ∧ wr.cell? ⟨bl, i, none⟩ = some (.slice (some ⟨b, 0, none⟩) l.length cb) ∧ l.length ≤ cb ∧ Row wr b 5 (l.map (Value.int .u8)) := by
  obtain ⟨vs, Fo, h1, h2, h3, h4, h5⟩ := h
  refine ⟨own_shape h1, h5, fun i l hi hne => ?_⟩
  have hlt : i < out.length := (List.getElem?_eq_some_iff.1 hi).1
  obtain ⟨v, k1, k2⟩ := h3 i l hi
  rcases h1.2 with ⟨_, h0⟩ | ⟨bl, cap, cur, e, _, hb, hc, _, _, ht⟩
  · omega
  · rcases k2 with ⟨e0, _⟩ | ⟨b, c, e2, k4, k5, k6⟩
    · exact absurd e0 hne
    · refine ⟨bl, cap, b, c, e, hc, ?_, k4, k6⟩
      rw [blk_cell hb, ← Array.getElem?_toList, ← e2]
      rw [← ht, List.getElem?_take] at k1
      split at k1
      · exact k1
      · cases k1
end
theorem first_calls (w : World) : Calls Try.prog 30 #[] w fun e w' => e = .returned (.bool true) ∧ Below w.heap.size w w' := by
  have P1 : addQ [] 0 (place 0) 4 3 = (0, 0, [⟨0, 68719476736, 3, [0, 0, 0, 0], none⟩], 1) := by decide +kernel
  have P2 : storeQ [⟨0, 68719476736, 3, [0, 0, 0, 0], none⟩] 68719476736 1 5 = (0, [⟨0, 68719476736, 3, [5, 0, 0, 0], none⟩]) := by decide +kernel
  have P3 : bytesQ [⟨0, 68719476736, 3, [5, 0, 0, 0], none⟩] 0 = (0, [5, 0, 0, 0]) := by decide +kernel
  have HP := Lib.hid (And.intro P1 (And.intro P2 P3))
  clear P1 P2 P3
  go_enter Try.func30, Try.ntmps30
  go_wp2_with fail
  refine (q_new w).mono ?_
  rintro e w1 ⟨F, gm, rfl, hM, hF, hB⟩
  have HF := Lib.hid hF; have HB := Lib.hid hB
  have HC := Lib.hid (New_ring hM)
  clear hM hF hB
  go_wp2_with fail
  refine HC.out.mono ?_
  rintro e w2 ⟨F', g, rfl, hR, hF, hB⟩
  have HB2 := Lib.hid (HB.out.trans (hB.mono HB.out.size))
  have HF2 : Hid (∀ b, F' b → w.heap.size ≤ b) := Lib.hid (fun b hb => (hF b hb).elim (Nat.le_trans HB.out.size) (HF.out b))
  have HC2 := Lib.hid (Reserve_go hR (by omega) 4 (by omega))
  clear hR hF hB HC HF HB
  go_wp2_with fail
  refine HC2.out.mono ?_
  rintro e w3 hp
  obtain ⟨rfl, F3, hR, hS⟩ := (hp.2 0 (by omega) rfl (fun j hj => by omega)).2 (by rw [HP.out.1])
  rw [HP.out.1] at hR
  have HB3 := Lib.hid (hS.below HB2.out HF2.out)
  have HF3 := Lib.hid (hS.low HB2.out.size HF2.out)
  have HC3 := Lib.hid (ring_store hR 68719476736 1 5 (by omega) (by omega))
  rw [HP.out.2.1] at HC3
  have hpl : place 0 = 68719476736 := rfl
  rw [hpl]
  clear hp hR hS HC2 HB2 HF2 hpl
  go_wp2_with fail
  refine HC3.out.mono ?_
  rintro e w4 ⟨rfl, F4, hR, hS⟩
  have HB4 := Lib.hid (hS.below HB3.out HF3.out)
  have HF4 := Lib.hid (hS.low HB3.out.size HF3.out)
  have HC4 := Lib.hid (Submit_go hR (by omega) (by simp) 68719476736)
  clear hR hS HC3 HB3 HF3
  go_wp2_with fail
  refine HC4.out.mono ?_
  rintro e w5 hp
  obtain ⟨F5, rfl, hR, hS⟩ := hp.2 0 (by omega) (by decide) rfl
  have hq : (bytesQ [⟨0, 68719476736, 3, [5, 0, 0, 0], none⟩] (([0, 0, 0, 0, 0, 0, 0, 0] : List Int).set 0 (0 + 1) |>.getD 0 0 |> (· - 1))).2 = [5, 0, 0, 0] := by decide +kernel
  have hR' : RQ w5 F5 g gm _ 1 [0, 0, 0, 0, 0, 0, 0, 0] [[5, 0, 0, 0]] := hR
  have HB5 := Lib.hid (hS.below HB4.out HF4.out)
  have HR := Lib.hid hR'
  have HC5 := Lib.hid (Out_go hR' (by simp) (by intro l hl; simp at hl; subst hl; simp))
  clear hR hS HC4 HB4 HF4 hp hR' hq
  go_wp2_with fail
  refine HC5.out.mono ?_
  rintro e w6 ⟨u, rfl, hO⟩
  obtain ⟨-, hB, hat⟩ := out_at hO
  obtain ⟨bl, c, b, cb, rfl, e0, e1, e2, e4⟩ := hat 0 [5, 0, 0, 0] rfl (by simp)
  have HB6 := Lib.hid (HB5.out.trans (hB.mono HB5.out.size))
  have HCO := Lib.hid (Open_ (HR.out.below hB))
  have HCV : Hid (w6.cell? ⟨bl, 0, none⟩ = some (.slice (some ⟨b, 0, none⟩) 4 cb) ∧ Sem.run Try.prog (convert 36 9 (.slice (some ⟨b, 0, none⟩) 4 cb)) w6 = .ok (.string (strOfNums [5, 0, 0, 0])) w6) := Lib.hid ⟨e1, Kd.C_string (P := Try.prog) (A := some ⟨b, 0, none⟩) (c := cb) Try.underlying36 Try.underlying5 Try.underlying9 (Mem5.rowC e4 (by decide))⟩
  have HSTR : strOfNums [5, 0, 0, 0] = ⟨#[5, 0, 0, 0]⟩ := by decide +kernel
  clear hO hB hat e1 e2 e4 HC5 HB5 HR
  obtain ⟨c1, c2⟩ := HCV.out
  go_wp2_with fail
  refine HCO.out.mono ?_
  rintro e w7 ⟨rfl, rfl⟩
  go_wp2
  go_ret
  exact ⟨rfl, HB6.out⟩
end Go.Proofs.Ytpjgaacdohiomaa.RingF
