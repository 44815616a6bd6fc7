/- one call of both indexes (the program's and the document's): they answer alike, and both stay what they are. -/
import Derived.Test.YtfbajampfiodeaaOne09
import Derived.Test.YtfbajampfiodeaaImp09
namespace Go.Proofs.Ytfbajampfiodeaa.Sim09
open Go.RowKit Go.Proofs.Ytfbajampfiodeaa.PArrayPlays Go.Proofs.YtfbajampfiodeaaW.PrintWords Go.Proofs.YtfbajampfiodeaaW.PrintLast Go.Proofs.YtfbajampfiodeaaW.PrintMore Go.Proofs.Ytfbajampfiodeaa.Mw Go.Proofs.Ytfbajampfiodeaa.Rx Go.Proofs.Ytfbajampfiodeaa.Fresh Go.Proofs.Ytfbajampfiodeaa.LpmM Go.Proofs.Ytfbajampfiodeaa.Imp09
open Go.Proofs.Ytfbajampfiodeaa.One09 (Held one_find one_put one_del one_keys)
set_option linter.unusedVariables false
/-- Both indexes, in one state, in blocks apart; n calls have been made. -/
def Both (w : World) (F : Nat → Prop) (gx gr n : Nat) (sz : Int) : Prop :=
  ∃ F1 F2 st, F = (fun b => F1 b ∨ F2 b) ∧ Imp w F1 gx n sz st ∧ RI w F2 gr kd sz st ∧ (∀ b, F1 b → ¬ F2 b) ∧ st.ck ≤ n
section
variable {w w' : World} {F F' : Nat → Prop} {gx gr n : Nat} {sz : Int}
theorem Both.lt (h : Both w F gx gr n sz) : ∀ b, F b → b < w.heap.size := by
  obtain ⟨F1, F2, st, rfl, h1, h2, _⟩ := h
  exact fun b hb => hb.elim (h1.lt b) (h2.lt b)
theorem Both.more (h : Both w F gx gr n sz) : Both w F gx gr (n + 1) sz := by
  obtain ⟨F1, F2, st, rfl, h1, h2, h3, h4⟩ := h
  exact ⟨F1, F2, st, rfl, h1.more, h2, h3, by omega⟩
theorem Both.keep (h : Both w F gx gr n sz) (hk : ∀ b, F b → w'.heap[b]? = w.heap[b]?) (hsz : w.heap.size ≤ w'.heap.size) : Both w' F gx gr n sz := by
  obtain ⟨F1, F2, st, rfl, h1, h2, h3, h4⟩ := h
  exact ⟨F1, F2, st, rfl, h1.keep (fun b hb => hk b (.inl hb)) hsz, h2.keep (fun b hb => hk b (.inr hb)) hsz, h3, h4⟩
theorem Both.below (h : Both w F gx gr n sz) (hb : Below w.heap.size w w') : Both w' F gx gr n sz := h.keep (fun b hF => hb.block b (h.lt b hF)) hb.size
theorem Both.alloc (h : Both w F gx gr n sz) (o : Obj) : Both (w.alloc o) F gx gr n sz := h.keep (fun b hF => Below.heap_alloc w o b (h.lt b hF)) (by simp)
theorem Both.step {G G' : Nat → Prop} (h : Both w F gx gr n sz) (hs : Step w w' G G') (ha : ∀ b, F b → ¬ G b) : Both w' F gx gr n sz := h.keep (fun b hb => hs.block b (h.lt b hb) (ha b hb)) hs.size
end
/-- Behind the call of the program's. -/
def PS (w1 : World) (F1 : Nat → Prop) (gx n : Nat) (sz : Int) (st1 : St) (W : World) : Prop := ∃ F1', Imp W F1' gx n sz st1 ∧ Step w1 W F1 F1'
/-- Behind both. -/
def QS (w1 : World) (F1 F2 : Nat → Prop) (gx gr n : Nat) (sz : Int) (st1 : St) (W : World) : Prop := ∃ F1' F2', Imp W F1' gx n sz st1 ∧ RI W F2' gr kd sz st1 ∧ (∀ b, F1' b → ¬ F2' b) ∧ Step w1 W (fun b => F1 b ∨ F2 b) (fun b => F1' b ∨ F2' b)
section
variable {w1 W : World} {F1 F2 : Nat → Prop} {gx gr n bx c : Nat} {sz k f : Int} {st st1 : St} {A : Option Addr} {l : List Int}
theorem held_step {G G' : Nat → Prop} (h : Held bx k A l c f w1) (hs : Step w1 W G G') (hb : ¬ G bx) (hA : ∀ ad, A = some ad → 0 < l.length → ¬ G ad.block) : Held bx k A l c f W :=
  ⟨hs.blk h.1 hb, Cu8_step h.2 hs hA⟩
theorem PS.ref (hP : PS w1 F1 gx n sz st1 W) (hR : RI w1 F2 gr kd sz st) (ha : ∀ b, F1 b → ¬ F2 b) : RI W F2 gr kd sz st := by
  obtain ⟨F1', _, hs⟩ := hP
  exact hR.keep (fun b hb => hs.block b (hR.lt b hb) (fun h => ha b h hb)) hs.size
/-- The document's call, behind the program's. -/
theorem PS.then_ {W' : World} {F2' : Nat → Prop} (hP : PS w1 F1 gx n sz st1 W) (hR : RI w1 F2 gr kd sz st) (ha : ∀ b, F1 b → ¬ F2 b) (hR' : RI W' F2' gr kd sz st1) (hs2 : Step W W' F2 F2') : QS w1 F1 F2 gx gr n sz st1 W' := by
  obtain ⟨F1', hI, hs⟩ := hP
  have ha1 : ∀ b, F1' b → ¬ F2 b := hs.apart (fun b hb => hR.lt b hb) ha
  refine ⟨F1', F2', hI.keep (fun b hb => hs2.block b (hI.lt b hb) (ha1 b hb)) hs2.size, hR', fun b h1 h2 => (hs2.foot b h2).elim (ha1 b h1) (fun h3 => by have := hI.lt b h1; omega), ?_⟩
  exact (hs.beside F2).trans (hs2.beside' F1')
theorem QS.drewN (h : QS w1 F1 F2 gx gr n sz st1 W) (m : Nat) : QS w1 F1 F2 gx gr n sz st1 (W.drewN m) := by
  obtain ⟨F1', F2', h1, h2, h3, h4⟩ := h
  exact ⟨F1', F2', h1.keep (fun _ _ => rfl) (Nat.le_refl _), h2.keep (fun _ _ => rfl) (Nat.le_refl _), h3, h4.drewN m⟩
end
theorem one_ (w : World) (F : Nat → Prop) (gx gr n : Nat) (sz : Int) (hB : Both w F gx gr n sz) (hn : n < 1000000) (k : Int) (A : Option Addr) (c : Nat) (l : List Int) (f : Int) (hC : Kd.C (Kd.int .u8) w A l.length l) (hl : l.length ≤ c) (hlb : ∀ x ∈ l, 0 ≤ x ∧ x ≤ 255) (hA : ∀ ad, A = some ad → 0 < l.length → ¬ F ad.block) :
    Calls Try.prog 53 #[.pointer (some ⟨gx, 0, none⟩), .pointer (some ⟨gr, 0, none⟩), .agg #[.int .i64 k, .slice A l.length c, .int .u64 f]] w fun e w' => e = .returned (.bool true) ∧ ∃ F', Both w' F' gx gr (n + 1) sz ∧ Step w w' F F' := by
  obtain ⟨F1, F2, st, rfl, hI, hR, ha, hck⟩ := hB
  generalize hw1 : w.alloc (.cells #[.int .i64 k, .slice A l.length c, .int .u64 f] 79) = w1
  have hb1 : Below w.heap.size w w1 := hw1 ▸ (Below.refl _ _).alloc (Nat.le_refl _) _
  have hI1 : Imp w1 F1 gx n sz st := hI.keep (fun b hb => hb1.block b (hI.lt b hb)) hb1.size
  have hR1 : RI w1 F2 gr kd sz st := hR.keep (fun b hb => hb1.block b (hR.lt b hb)) hb1.size
  have hC1 := Kd.C_below hC hb1
  have hH : Held w.heap.size k A l c f w1 := ⟨hw1 ▸ heap_alloc_new w _, hC1⟩
  have hbx : ¬ (F1 w.heap.size ∨ F2 w.heap.size) := fun h => h.elim (fun h => by have := hI.lt _ h; omega) (fun h => by have := hR.lt _ h; omega)
  have hPH : ∀ st1 W, PS w1 F1 gx (n + 1) sz st1 W → Held w.heap.size k A l c f W := fun st1 W ⟨F1', _, hs⟩ => held_step hH hs (fun h => hbx (.inl h)) (fun ad e hp h => hA ad e hp (.inl h))
  have hQH : ∀ st1 W, QS w1 F1 F2 gx gr (n + 1) sz st1 W → Held w.heap.size k A l c f W := fun st1 W ⟨F1', F2', _, _, _, hs⟩ => held_step hH hs hbx hA
  have fin : ∀ st1 W, st1.ck ≤ st.ck + 1 → QS w1 F1 F2 gx gr (n + 1) sz st1 W → ∃ F', Both W F' gx gr (n + 1) sz ∧ Step w W (fun b => F1 b ∨ F2 b) F' := fun st1 W hc ⟨F1', F2', q1, q2, q3, q4⟩ =>
    ⟨_, ⟨F1', F2', st1, rfl, q1, q2, q3, by omega⟩, (Step.of_below hb1 _).trans q4⟩
  have hck2 : st.ck < 4611686018427387904 := by omega
  rcases (show (IntKind.u64.wrap k).tmod 4 = 0 ∨ (IntKind.u64.wrap k).tmod 4 = 1 ∨ (IntKind.u64.wrap k).tmod 4 = 2 ∨ (IntKind.u64.wrap k).tmod 4 = 3 by
    have h0 : 0 ≤ IntKind.u64.wrap k := by rw [IntKind.wrap_u64]; omega
    rw [Int.tmod_eq_emod_of_nonneg h0]
    omega) with h | h | h | h
  · refine (one_find w _ _ k A c l f hC h _ _ (fnd kd sz st l).1 (PS w1 F1 gx (n + 1) sz (fnd kd sz st l).2) (QS w1 F1 F2 gx gr (n + 1) sz (fnd kd sz st l).2) (hPH _) (hQH _)
      (by rw [hw1]; exact imp_find hI1 A c l hC1 hl hlb (fun ad e hp h => hA ad e hp (.inl h))) (fun W hP => ?_) rfl rfl).mono fun e W ⟨he, hQ⟩ => ⟨he, fin _ W (fnd_ck kd sz st l).2 hQ⟩
    exact (ref_find (hP.ref hR1 ha) (by decide) hck2 A c l (hPH _ W hP).2 hl hlb).mono fun e W' ⟨he, F2', hR', hs⟩ => ⟨he, hP.then_ hR1 ha hR' hs⟩
  · refine (one_put w _ _ k A c l f hC h _ _ _ (PS w1 F1 gx (n + 1) sz (put kd sz st l f).2) (QS w1 F1 F2 gx gr (n + 1) sz (put kd sz st l f).2) (hPH _) (hQH _)
      (by rw [hw1]; exact imp_put hI1 (by omega) A c l f hC1 hl hlb (fun ad e hp h => hA ad e hp (.inl h))) (fun W hP => ?_)).mono fun e W ⟨he, hQ⟩ => ⟨he, fin _ W (put_ck kd sz st l f).2 hQ⟩
    exact (ref_put (hP.ref hR1 ha) (by decide) hck2 A c l f (hPH _ W hP).2 hl hlb).mono fun e W' ⟨he, F2', hR', hs⟩ => ⟨he, hP.then_ hR1 ha hR' hs⟩
  · refine (one_del w _ _ k A c l f hC h _ _ (PS w1 F1 gx (n + 1) sz (del kd sz st l).2) (QS w1 F1 F2 gx gr (n + 1) sz (del kd sz st l).2) (hPH _) (hQH _)
      (by rw [hw1]; exact imp_del hI1 A c l hC1 hl hlb (fun ad e hp h => hA ad e hp (.inl h))) (fun W hP => ?_)).mono fun e W ⟨he, hQ⟩ => ⟨he, fin _ W (del_ck kd sz st l).2 hQ⟩
    exact (ref_del (hP.ref hR1 ha) (by decide) A c l (hPH _ W hP).2 hl hlb).mono fun e W' ⟨he, F2', hR', hs⟩ => ⟨he, hP.then_ hR1 ha hR' hs⟩
  · have hrows := hR.rows
    have hrl : ∀ l ∈ keys st, l.length ≤ 9223372036854775807 := fun l hl => by have := (hrows.2 l hl).2.1; omega
    have hks : ∀ e W v, e = Ending.returned v → FreshRows W w1.heap.size v (keys st) → Below w1.heap.size w1 W → ∃ A1 c1, e = .returned (.slice A1 (keys st).length c1) ∧ Kd.C (Kd.slice 5 (Kd.int .u8)) W A1 (keys st).length (keys st) ∧ PS w1 F1 gx (n + 1) sz st W := fun e W v he hF hb => by
      obtain ⟨A1, c1, rfl, _, hc⟩ := hF.read (by omega) hrl
      exact ⟨A1, c1, he, hc, F1, (hI1.keep (fun b hb' => hb.block b (hI1.lt b hb')) hb.size).more, Step.of_below hb F1⟩
    refine (one_keys w _ _ k A c l f hC h (keys st) (fun l hl => (hrows.2 l hl).2.2) hrows.1 (PS w1 F1 gx (n + 1) sz st) (QS w1 F1 F2 gx gr (n + 1) sz st) (fun W m h => h.drewN m) (hQH _)
      (by rw [hw1]; exact (imp_keys hI1).mono fun e W ⟨v, he, hF, hb⟩ => hks e W v he hF hb) (fun W A1 hP hA1 => ?_)).mono fun e W ⟨he, hQ⟩ => ⟨he, fin _ W (by omega) hQ⟩
    · refine (ref_keys (hP.ref hR1 ha)).mono fun e W' ⟨v, he, hF, hb⟩ => ?_
      obtain ⟨A2, c2, rfl, _, hc⟩ := hF.read (by omega) hrl
      exact ⟨A2, c2, he, Kd.C_below hA1 hb, hc, hP.then_ hR1 ha ((hP.ref hR1 ha).keep (fun b hb' => hb.block b ((hP.ref hR1 ha).lt b hb')) hb.size) (Step.of_below hb F2)⟩
end Go.Proofs.Ytfbajampfiodeaa.Sim09
