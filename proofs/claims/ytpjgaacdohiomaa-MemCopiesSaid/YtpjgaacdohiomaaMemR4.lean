/- mem: one call of both memories: they answer alike, and stay alike. mem: a script of calls in memory: its elements; a new pair of memories. -/
import Derived.Test.YtpjgaacdohiomaaMemOne
import Derived.Test.YtpjgaacdohiomaaMemF
namespace Go.Proofs.Ytpjgaacdohiomaa.MemSim
open Go.RowKit Go.Proofs.Ytpjgaacdohiomaa.PMemCopies Go.Proofs.YtpjgaacdohiomaaW.PrintWords Go.Proofs.YtpjgaacdohiomaaW.PrintLast Go.Proofs.YtpjgaacdohiomaaW.PrintMore Go.Proofs.Ytpjgaacdohiomaa.Mw Go.Proofs.Ytpjgaacdohiomaa.Mem1 Go.Proofs.Ytpjgaacdohiomaa.Mem5 Go.Proofs.Ytpjgaacdohiomaa.MemN Go.Proofs.Ytpjgaacdohiomaa.MemC Go.Proofs.Ytpjgaacdohiomaa.MemQ Go.Proofs.Ytpjgaacdohiomaa.MemK Go.Proofs.Ytpjgaacdohiomaa.MemP Go.Proofs.Ytpjgaacdohiomaa.MemRA Go.Proofs.Ytpjgaacdohiomaa.MemRB Go.Proofs.Ytpjgaacdohiomaa.MemRC Go.Proofs.Ytpjgaacdohiomaa.MemRE Go.Proofs.Ytpjgaacdohiomaa.MemRF Go.Proofs.Ytpjgaacdohiomaa.MemRN Go.Proofs.Ytpjgaacdohiomaa.MemRG Go.Proofs.Ytpjgaacdohiomaa.MemRP Go.Proofs.Ytpjgaacdohiomaa.MemOne
set_option linter.unusedVariables false
set_option linter.unusedSimpArgs false
/-- Both memories, alike, in blocks apart; at most n regions have been. -/
def Both (w : World) (F : Nat → Prop) (gm gr n : Nat) : Prop :=
  ∃ F1 F2 rs nx ds, F = (fun b => F1 b ∨ F2 b) ∧ MQ w F1 gm rs nx ∧ DQ w F2 gr ds ∧ Rel rs nx ds ∧ (∀ b, F1 b → ¬ F2 b) ∧ ds.length ≤ n
section
variable {w w' : World} {F F' : Nat → Prop} {gm gr n : Nat}
theorem Both.lt (h : Both w F gm gr n) : ∀ b, F b → b < w.heap.size := by
  obtain ⟨F1, F2, rs, nx, ds, rfl, h1, h2, _⟩ := h
  exact fun b hb => hb.elim (h1.lt b) (h2.lt b)
theorem Both.more (h : Both w F gm gr n) : Both w F gm gr (n + 1) := by
  obtain ⟨F1, F2, rs, nx, ds, rfl, h1, h2, h3, h4, h5⟩ := h
  exact ⟨F1, F2, rs, nx, ds, rfl, h1, h2, h3, h4, by omega⟩
theorem Both.below (h : Both w F gm gr n) (hb : Below w.heap.size w w') : Both w' F gm gr n := by
  obtain ⟨F1, F2, rs, nx, ds, rfl, h1, h2, h3, h4, h5⟩ := h
  exact ⟨F1, F2, rs, nx, ds, rfl, h1.below hb, h2.below hb, h3, h4, h5⟩
theorem Both.step {G G' : Nat → Prop} (h : Both w F gm gr n) (hs : Step w w' G G') (ha : ∀ b, F b → ¬ G b) : Both w' F gm gr n := by
  obtain ⟨F1, F2, rs, nx, ds, rfl, h1, h2, h3, h4, h5⟩ := h
  exact ⟨F1, F2, rs, nx, ds, rfl, h1.step hs (fun b hb => ha b (.inl hb)), h2.step hs (fun b hb => ha b (.inr hb)), h3, h4, h5⟩
end
/-- Behind the call of the program's. -/
def PS (w1 : World) (F1 : Nat → Prop) (gm : Nat) (rs : List Rg) (nx : Int) (W : World) : Prop := ∃ F1', MQ W F1' gm rs nx ∧ Step w1 W F1 F1'
/-- Behind both. -/
def QS (w1 : World) (F1 F2 : Nat → Prop) (gm gr : Nat) (rs : List Rg) (nx : Int) (ds : List DR) (W : World) : Prop := ∃ F1' F2', MQ W F1' gm rs nx ∧ DQ W F2' gr ds ∧ (∀ b, F1' b → ¬ F2' b) ∧ Step w1 W (fun b => F1 b ∨ F2 b) (fun b => F1' b ∨ F2' b)
section
variable {w1 W : World} {F1 F2 : Nat → Prop} {gm gr bx c : Nat} {kd ad n m v nx : Int} {rs : List Rg} {ds : List DR} {A : Option Addr} {l : List Int}
theorem held_step {G G' : Nat → Prop} (h : Held bx kd ad n m v A l c w1) (hs : Step w1 W G G') (hb : ¬ G bx) (hA : ∀ ad, A = some ad → 0 < l.length → ¬ G ad.block) : Held bx kd ad n m v A l c W :=
  ⟨hs.blk h.1 hb, Cu8_step h.2 hs hA⟩
theorem PS.ref (hP : PS w1 F1 gm rs nx W) (hR : DQ w1 F2 gr ds) (ha : ∀ b, F1 b → ¬ F2 b) : DQ W F2 gr ds := by
  obtain ⟨F1', _, hs⟩ := hP
  exact hR.step hs (fun b hb h => ha b h hb)
/-- The document's call, behind the program's. -/
theorem PS.then_ {W' : World} {F2' : Nat → Prop} {ds' : List DR} (hP : PS w1 F1 gm rs nx W) (hR : DQ w1 F2 gr ds) (ha : ∀ b, F1 b → ¬ F2 b) (hR' : DQ W' F2' gr ds') (hs2 : Step W W' F2 F2') : QS w1 F1 F2 gm gr rs nx ds' W' := by
  obtain ⟨F1', hI, hs⟩ := hP
  have ha1 : ∀ b, F1' b → ¬ F2 b := hs.apart (fun b hb => hR.lt b hb) ha
  refine ⟨F1', F2', hI.step hs2 (fun b h1 h2 => ha1 b h1 h2), hR', fun b h1 h2 => (hs2.foot b h2).elim (ha1 b h1) (fun h3 => by have := hI.lt b h1; omega), ?_⟩
  exact (hs.beside F2).trans (hs2.beside' F1')
theorem PS.below_ {w' : World} (hP : PS w1 F1 gm rs nx W) (hb : Below W.heap.size W w') : PS w1 F1 gm rs nx w' := by
  obtain ⟨F1', hI, hs⟩ := hP
  exact ⟨F1', hI.below hb, hs.then_below hb⟩
end
/-- What a result of Bytes or Read is. -/
theorem bv_read {w : World} {B : Nat} {v : Value} {l : List Int} (h : BV w B v l) (hl : l.length ≤ 9223372036854775807) : ∃ A c, v = .slice A l.length c ∧ Kd.C (Kd.int .u8) w A l.length l ∧ ∀ ad, A = some ad → B ≤ ad.block := by
  rcases h with ⟨rfl, rfl⟩ | ⟨b, c, rfl, h1, h2, h3⟩
  · exact ⟨none, 0, rfl, ⟨rfl, by simp, fun h => absurd h (by simp)⟩, fun ad e => by cases e⟩
  · exact ⟨_, c, rfl, rowC h3 hl, fun ad e => by cases e; exact h2⟩
theorem ov_read {w : World} {B : Nat} {v : Value} {l : List Int} (h : OV w B v l) : ∃ A c, v = .slice A l.length c ∧ Kd.C (Kd.int .u8) w A l.length l := by
  obtain ⟨A, c, rfl⟩ := Kd.R_slice h
  obtain ⟨h1, h2, h3⟩ := Kd.R_reads' h
  rw [h1]
  exact ⟨A, c, rfl, h3⟩
theorem readQ_len (rs : List Rg) (a n : Int) : (readQ rs a n).2.length ≤ n.toNat := by
  unfold readQ
  split
  · simp
  split
  · simp
  split
  · simp
  · split
    · simp
    · split
      · simp only [List.length_take]; omega
      · simp
theorem of_at (ds : List DR) (a : Int) : ofV ds a = match atD ds a 1 with | some (k, r, d) => .tuple #[.int .i64 (k : Int), .int .i64 d] | none => .tuple #[.int .i64 (-1), .int .i64 0] := by
  unfold ofV atD
  cases h : ds[ds.findIdx (inD a)]? with
  | none => rfl
  | some r =>
    obtain ⟨h1, h2, h3⟩ := idx_in h
    simp only
    rw [if_pos (by omega)]
section
variable {w : World} {F1 F2 : Nat → Prop} {gm gr : Nat} {nx : Int} {rs : List Rg} {ds : List DR} {A : Option Addr} {l : List Int}
/-- What holds behind the op's own block. -/
structure Start (w : World) (F1 F2 : Nat → Prop) (gm gr : Nat) (nx : Int) (rs : List Rg) (ds : List DR) (A : Option Addr) (l : List Int) (kd ad n m v : Int) (c : Nat) : Prop where
  mem : MQ (w.alloc (.cells #[.int .i64 kd, .int .u64 ad, .int .i64 n, .int .i64 m, .int .u64 v, .slice A l.length c] 54)) F1 gm rs nx
  ref : DQ (w.alloc (.cells #[.int .i64 kd, .int .u64 ad, .int .i64 n, .int .i64 m, .int .u64 v, .slice A l.length c] 54)) F2 gr ds
  held : Held w.heap.size kd ad n m v A l c (w.alloc (.cells #[.int .i64 kd, .int .u64 ad, .int .i64 n, .int .i64 m, .int .u64 v, .slice A l.length c] 54))
  hp : ∀ rs' nx' W, PS (w.alloc (.cells #[.int .i64 kd, .int .u64 ad, .int .i64 n, .int .i64 m, .int .u64 v, .slice A l.length c] 54)) F1 gm rs' nx' W → Held w.heap.size kd ad n m v A l c W
  hq : ∀ rs' nx' ds' W, QS (w.alloc (.cells #[.int .i64 kd, .int .u64 ad, .int .i64 n, .int .i64 m, .int .u64 v, .slice A l.length c] 54)) F1 F2 gm gr rs' nx' ds' W → Held w.heap.size kd ad n m v A l c W
  fin : ∀ rs' nx' ds' W N, QS (w.alloc (.cells #[.int .i64 kd, .int .u64 ad, .int .i64 n, .int .i64 m, .int .u64 v, .slice A l.length c] 54)) F1 F2 gm gr rs' nx' ds' W → Rel rs' nx' ds' → ds'.length ≤ N → ∃ F', Both W F' gm gr N ∧ Step w W (fun b => F1 b ∨ F2 b) F'
theorem start (hI : MQ w F1 gm rs nx) (hR : DQ w F2 gr ds) (hC : Kd.C (Kd.int .u8) w A l.length l) (hA : ∀ ad, A = some ad → 0 < l.length → ¬ (F1 ad.block ∨ F2 ad.block)) (kd ad n m v : Int) (c : Nat) : Start w F1 F2 gm gr nx rs ds A l kd ad n m v c := by
  have hb1 : Below w.heap.size w (w.alloc (.cells #[.int .i64 kd, .int .u64 ad, .int .i64 n, .int .i64 m, .int .u64 v, .slice A l.length c] 54)) := (Below.refl _ _).alloc (Nat.le_refl _) _
  have hH : Held w.heap.size kd ad n m v A l c (w.alloc (.cells #[.int .i64 kd, .int .u64 ad, .int .i64 n, .int .i64 m, .int .u64 v, .slice A l.length c] 54)) := ⟨heap_alloc_new w _, Kd.C_below hC hb1⟩
  have hbx : ¬ (F1 w.heap.size ∨ F2 w.heap.size) := fun h => h.elim (fun h => by have := hI.lt _ h; omega) (fun h => by have := hR.lt _ h; omega)
  exact ⟨hI.below hb1, hR.below hb1, hH, fun rs' nx' W ⟨F1', _, hs⟩ => held_step hH hs (fun h => hbx (.inl h)) (fun ad e hp h => hA ad e hp (.inl h)), fun rs' nx' ds' W ⟨F1', F2', _, _, _, hs⟩ => held_step hH hs hbx hA,
    fun rs' nx' ds' W N ⟨F1', F2', q1, q2, q3, q4⟩ hr hn => ⟨_, ⟨F1', F2', rs', nx', ds', rfl, q1, q2, hr, q3, hn⟩, (Step.of_below hb1 _).trans q4⟩⟩
variable {kd ad n m v : Int} {c N : Nat}
theorem sim_load (hI : MQ w F1 gm rs nx) (hR : DQ w F2 gr ds) (hr : Rel rs nx ds) (ha : ∀ b, F1 b → ¬ F2 b) (hN : ds.length ≤ N) (hC : Kd.C (Kd.int .u8) w A l.length l) (hA : ∀ ad, A = some ad → 0 < l.length → ¬ (F1 ad.block ∨ F2 ad.block)) (had : 0 ≤ ad ∧ ad < 18446744073709551616) (h : (IntKind.u64.wrap kd).tmod 9 = 2) : Calls Try.prog 23 #[.pointer (some ⟨gm, 0, none⟩), .pointer (some ⟨gr, 0, none⟩), .agg #[.int .i64 kd, .int .u64 ad, .int .i64 n, .int .i64 m, .int .u64 v, .slice A l.length c]] w fun e w' => e = .returned (.bool true) ∧ ∃ F', Both w' F' gm gr (N + 1) ∧ Step w w' (fun b => F1 b ∨ F2 b) F' := by
  have S := start hI hR hC hA kd ad n m v c
  refine (one_load w _ _ kd ad n m v A c l hC h (loadQ rs ad n).2 (loadQ rs ad n).1 (PS (w.alloc (.cells #[.int .i64 kd, .int .u64 ad, .int .i64 n, .int .i64 m, .int .u64 v, .slice A l.length c] 54)) F1 gm rs nx) (QS (w.alloc (.cells #[.int .i64 kd, .int .u64 ad, .int .i64 n, .int .i64 m, .int .u64 v, .slice A l.length c] 54)) F1 F2 gm gr rs nx ds) (S.hp _ _) (S.hq _ _ _)
    ((q_load S.mem ad n had).mono fun e W ⟨he, hb⟩ => ⟨he, F1, S.mem.below hb, Step.of_below hb F1⟩) (fun W hP => ?_)).mono fun e W ⟨he, hQ⟩ => ⟨he, S.fin _ _ _ W _ hQ hr (by omega)⟩
  have := r_load (hP.ref S.ref ha) ad n had
  rw [← load_same hr] at this
  exact this.mono fun e W' ⟨he, hb⟩ => ⟨he, hP.then_ S.ref ha ((hP.ref S.ref ha).below hb) (Step.of_below hb F2)⟩
theorem sim_read (hI : MQ w F1 gm rs nx) (hR : DQ w F2 gr ds) (hr : Rel rs nx ds) (ha : ∀ b, F1 b → ¬ F2 b) (hN : ds.length ≤ N) (hC : Kd.C (Kd.int .u8) w A l.length l) (hA : ∀ ad, A = some ad → 0 < l.length → ¬ (F1 ad.block ∨ F2 ad.block)) (had : 0 ≤ ad ∧ ad < 18446744073709551616) (hn : n ≤ 9223372036854775807) (h : (IntKind.u64.wrap kd).tmod 9 = 4) : Calls Try.prog 23 #[.pointer (some ⟨gm, 0, none⟩), .pointer (some ⟨gr, 0, none⟩), .agg #[.int .i64 kd, .int .u64 ad, .int .i64 n, .int .i64 m, .int .u64 v, .slice A l.length c]] w fun e w' => e = .returned (.bool true) ∧ ∃ F', Both w' F' gm gr (N + 1) ∧ Step w w' (fun b => F1 b ∨ F2 b) F' := by
  have S := start hI hR hC hA kd ad n m v c
  have hlen := readQ_len rs ad n
  refine (one_read w _ _ kd ad n m v A c l hC h (readQ rs ad n).2 (readQ rs ad n).1 (PS (w.alloc (.cells #[.int .i64 kd, .int .u64 ad, .int .i64 n, .int .i64 m, .int .u64 v, .slice A l.length c] 54)) F1 gm rs nx) (QS (w.alloc (.cells #[.int .i64 kd, .int .u64 ad, .int .i64 n, .int .i64 m, .int .u64 v, .slice A l.length c] 54)) F1 F2 gm gr rs nx ds) (S.hp _ _) (S.hq _ _ _)
    ((q_read S.mem ad n had).mono fun e W ⟨u, he, hv, hb⟩ => ?_) (fun W A1 hP hC1 => ?_)).mono fun e W ⟨he, hQ⟩ => ⟨he, S.fin _ _ _ W _ hQ hr (by omega)⟩
  · obtain ⟨A1, c1, rfl, hC1, _⟩ := bv_read hv (by omega)
    exact ⟨A1, c1, he, hC1, F1, S.mem.below hb, Step.of_below hb F1⟩
  · have := r_read (hP.ref S.ref ha) ad n had
    rw [← read_same hr] at this
    refine this.mono fun e W' ⟨u, he, hv, hb⟩ => ?_
    obtain ⟨A2, c2, rfl, hC2⟩ := ov_read hv
    exact ⟨A2, c2, he, Kd.C_below hC1 hb, hC2, hP.then_ S.ref ha ((hP.ref S.ref ha).below hb) (Step.of_below hb F2)⟩
theorem sim_find (hI : MQ w F1 gm rs nx) (hR : DQ w F2 gr ds) (hr : Rel rs nx ds) (ha : ∀ b, F1 b → ¬ F2 b) (hN : ds.length ≤ N) (hC : Kd.C (Kd.int .u8) w A l.length l) (hA : ∀ ad, A = some ad → 0 < l.length → ¬ (F1 ad.block ∨ F2 ad.block)) (had : 0 ≤ ad ∧ ad < 18446744073709551616) (h : (IntKind.u64.wrap kd).tmod 9 = 8) : Calls Try.prog 23 #[.pointer (some ⟨gm, 0, none⟩), .pointer (some ⟨gr, 0, none⟩), .agg #[.int .i64 kd, .int .u64 ad, .int .i64 n, .int .i64 m, .int .u64 v, .slice A l.length c]] w fun e w' => e = .returned (.bool true) ∧ ∃ F', Both w' F' gm gr (N + 1) ∧ Step w w' (fun b => F1 b ∨ F2 b) F' := by
  have S := start hI hR hC hA kd ad n m v c
  have hf := find_same hr ad
  have ho := of_at ds ad
  have h1 := q_find S.mem ad had
  have h2 := fun W (hP : PS (w.alloc (.cells #[.int .i64 kd, .int .u64 ad, .int .i64 n, .int .i64 m, .int .u64 v, .slice A l.length c] 54)) F1 gm rs nx W) => r_of (hP.ref S.ref ha) ad had
  rw [hf] at h1
  rw [ho] at h2
  cases hm : atD ds ad 1 with
  | none =>
    rw [hm] at h1 h2
    exact (one_find_miss w _ _ kd ad n m v A c l hC h (PS (w.alloc (.cells #[.int .i64 kd, .int .u64 ad, .int .i64 n, .int .i64 m, .int .u64 v, .slice A l.length c] 54)) F1 gm rs nx) (QS (w.alloc (.cells #[.int .i64 kd, .int .u64 ad, .int .i64 n, .int .i64 m, .int .u64 v, .slice A l.length c] 54)) F1 F2 gm gr rs nx ds) (S.hp _ _) (S.hq _ _ _)
      (h1.mono fun e W ⟨he, hb⟩ => ⟨he, F1, hb ▸ S.mem, hb ▸ Step.refl _ _⟩) (fun W hP => (h2 W hP).mono fun e W' ⟨he, hb⟩ => ⟨he, hP.then_ S.ref ha ((hP.ref S.ref ha).below hb) (Step.of_below hb F2)⟩)).mono fun e W ⟨he, hQ⟩ => ⟨he, S.fin _ _ _ W _ hQ hr (by omega)⟩
  | some x =>
    obtain ⟨k, r, d⟩ := x
    rw [hm] at h1 h2
    exact (one_find_hit w _ _ kd ad n m v A c l hC h (k : Int) d (by omega) (PS (w.alloc (.cells #[.int .i64 kd, .int .u64 ad, .int .i64 n, .int .i64 m, .int .u64 v, .slice A l.length c] 54)) F1 gm rs nx) (QS (w.alloc (.cells #[.int .i64 kd, .int .u64 ad, .int .i64 n, .int .i64 m, .int .u64 v, .slice A l.length c] 54)) F1 F2 gm gr rs nx ds) (S.hp _ _) (S.hq _ _ _)
      (h1.mono fun e W ⟨he, hb⟩ => ⟨he, F1, hb ▸ S.mem, hb ▸ Step.refl _ _⟩) (fun W hP => (h2 W hP).mono fun e W' ⟨he, hb⟩ => ⟨he, hP.then_ S.ref ha ((hP.ref S.ref ha).below hb) (Step.of_below hb F2)⟩)).mono fun e W ⟨he, hQ⟩ => ⟨he, S.fin _ _ _ W _ hQ hr (by omega)⟩
theorem sim_add (hI : MQ w F1 gm rs nx) (hR : DQ w F2 gr ds) (hr : Rel rs nx ds) (ha : ∀ b, F1 b → ¬ F2 b) (hN : ds.length ≤ N) (hC : Kd.C (Kd.int .u8) w A l.length l) (hA : ∀ ad, A = some ad → 0 < l.length → ¬ (F1 ad.block ∨ F2 ad.block)) (had : 0 ≤ ad ∧ ad < 18446744073709551616) (hn : -9223372036854775808 ≤ n ∧ n < 9223372036854775808) (hlim : N < 90000) (h : (IntKind.u64.wrap kd).tmod 9 = 0) : Calls Try.prog 23 #[.pointer (some ⟨gm, 0, none⟩), .pointer (some ⟨gr, 0, none⟩), .agg #[.int .i64 kd, .int .u64 ad, .int .i64 n, .int .i64 m, .int .u64 v, .slice A l.length c]] w fun e w' => e = .returned (.bool true) ∧ ∃ F', Both w' F' gm gr (N + 1) ∧ Step w w' (fun b => F1 b ∨ F2 b) F' := by
  by_cases h4 : n > 4096
  · have S := start hI hR hC hA kd ad (n % 4096 + 65000) m v c
    obtain ⟨q1, q2, q3, q4⟩ := add_same hr ad (n % 4096 + 65000) m had.1
    have h1 := q_add S.mem (by rw [hr.next]; omega) ad (n % 4096 + 65000) m had (by omega)
    have h2 := fun W (hP : PS (w.alloc (.cells #[.int .i64 kd, .int .u64 ad, .int .i64 (n % 4096 + 65000), .int .i64 m, .int .u64 v, .slice A l.length c] 54)) F1 gm (addQ rs nx ad (n % 4096 + 65000) m).2.2.1 (addQ rs nx ad (n % 4096 + 65000) m).2.2.2 W) => r_add (hP.ref S.ref ha) (by omega) ad (n % 4096 + 65000) m had (by omega)
    rw [q1, q2] at h1
    refine (one_add_high w _ _ kd ad n m v A c l hC h h4 (addD ds ad (n % 4096 + 65000) m).1 (addD ds ad (n % 4096 + 65000) m).2.1 (PS (w.alloc (.cells #[.int .i64 kd, .int .u64 ad, .int .i64 (n % 4096 + 65000), .int .i64 m, .int .u64 v, .slice A l.length c] 54)) F1 gm (addQ rs nx ad (n % 4096 + 65000) m).2.2.1 (addQ rs nx ad (n % 4096 + 65000) m).2.2.2) (QS (w.alloc (.cells #[.int .i64 kd, .int .u64 ad, .int .i64 (n % 4096 + 65000), .int .i64 m, .int .u64 v, .slice A l.length c] 54)) F1 F2 gm gr (addQ rs nx ad (n % 4096 + 65000) m).2.2.1 (addQ rs nx ad (n % 4096 + 65000) m).2.2.2 (addD ds ad (n % 4096 + 65000) m).2.2) (S.hp _ _) (S.hq _ _ _)
      (h1.mono fun e W ⟨he, F', hb, hs⟩ => ⟨he, F', hb, hs⟩) (fun W hP => (h2 W hP).mono fun e W' ⟨he, F', hb, hs⟩ => ⟨he, hP.then_ S.ref ha hb hs⟩)).mono fun e W ⟨he, hQ⟩ => ⟨he, S.fin _ _ _ W _ hQ q3 (by omega)⟩
  · have S := start hI hR hC hA kd ad n m v c
    obtain ⟨q1, q2, q3, q4⟩ := add_same hr ad n m had.1
    have h1 := q_add S.mem (by rw [hr.next]; omega) ad n m had (by omega)
    have h2 := fun W (hP : PS (w.alloc (.cells #[.int .i64 kd, .int .u64 ad, .int .i64 n, .int .i64 m, .int .u64 v, .slice A l.length c] 54)) F1 gm (addQ rs nx ad n m).2.2.1 (addQ rs nx ad n m).2.2.2 W) => r_add (hP.ref S.ref ha) (by omega) ad n m had (by omega)
    rw [q1, q2] at h1
    refine (one_add_low w _ _ kd ad n m v A c l hC h h4 (addD ds ad n m).1 (addD ds ad n m).2.1 (PS (w.alloc (.cells #[.int .i64 kd, .int .u64 ad, .int .i64 n, .int .i64 m, .int .u64 v, .slice A l.length c] 54)) F1 gm (addQ rs nx ad n m).2.2.1 (addQ rs nx ad n m).2.2.2) (QS (w.alloc (.cells #[.int .i64 kd, .int .u64 ad, .int .i64 n, .int .i64 m, .int .u64 v, .slice A l.length c] 54)) F1 F2 gm gr (addQ rs nx ad n m).2.2.1 (addQ rs nx ad n m).2.2.2 (addD ds ad n m).2.2) (S.hp _ _) (S.hq _ _ _)
      (h1.mono fun e W ⟨he, F', hb, hs⟩ => ⟨he, F', hb, hs⟩) (fun W hP => (h2 W hP).mono fun e W' ⟨he, F', hb, hs⟩ => ⟨he, hP.then_ S.ref ha hb hs⟩)).mono fun e W ⟨he, hQ⟩ => ⟨he, S.fin _ _ _ W _ hQ q3 (by omega)⟩
theorem sim_kill (hI : MQ w F1 gm rs nx) (hR : DQ w F2 gr ds) (hr : Rel rs nx ds) (ha : ∀ b, F1 b → ¬ F2 b) (hN : ds.length ≤ N) (hC : Kd.C (Kd.int .u8) w A l.length l) (hA : ∀ ad, A = some ad → 0 < l.length → ¬ (F1 ad.block ∨ F2 ad.block))  (h : (IntKind.u64.wrap kd).tmod 9 = 1) : Calls Try.prog 23 #[.pointer (some ⟨gm, 0, none⟩), .pointer (some ⟨gr, 0, none⟩), .agg #[.int .i64 kd, .int .u64 ad, .int .i64 n, .int .i64 m, .int .u64 v, .slice A l.length c]] w fun e w' => e = .returned (.bool true) ∧ ∃ F', Both w' F' gm gr (N + 1) ∧ Step w w' (fun b => F1 b ∨ F2 b) F' := by
  have S := start hI hR hC hA kd ad n m v c
  obtain ⟨q1, q2, q3⟩ := kill_same hr n
  have hd : ∀ W, (W = (w.alloc (.cells #[.int .i64 kd, .int .u64 ad, .int .i64 n, .int .i64 m, .int .u64 v, .slice A l.length c] 54)) ∨ W = (w.alloc (.cells #[.int .i64 kd, .int .u64 ad, .int .i64 n, .int .i64 m, .int .u64 v, .slice A l.length c] 54)).drew) → MQ W F1 gm rs nx ∧ (∀ W' F', Step W W' F1 F' → Step (w.alloc (.cells #[.int .i64 kd, .int .u64 ad, .int .i64 n, .int .i64 m, .int .u64 v, .slice A l.length c] 54)) W' F1 F') ∧ Held w.heap.size kd ad n m v A l c W := fun W hW => by
    rcases hW with rfl | rfl
    · exact ⟨S.mem, fun _ _ h => h, S.held⟩
    · exact ⟨S.mem.drewN 1, fun _ _ h => Step.undrewN (n := 1) h, S.held.drew⟩
  refine (one_kill w _ _ kd ad n m v A c l hC h (killD ds n).1 (PS (w.alloc (.cells #[.int .i64 kd, .int .u64 ad, .int .i64 n, .int .i64 m, .int .u64 v, .slice A l.length c] 54)) F1 gm (killQ rs n).2 nx) (QS (w.alloc (.cells #[.int .i64 kd, .int .u64 ad, .int .i64 n, .int .i64 m, .int .u64 v, .slice A l.length c] 54)) F1 F2 gm gr (killQ rs n).2 nx (killD ds n).2) (S.hp _ _) (S.hq _ _ _)
    (fun W hW => ?_) (fun W hP => ?_) (fun W hQ => ?_)).mono fun e W ⟨he, hQ⟩ => ⟨he, S.fin _ _ _ W _ hQ q2 (by rw [killD_len]; omega)⟩
  · obtain ⟨d1, d2, d3⟩ := hd W hW
    have := q_kill d1 n
    rw [q1] at this
    exact this.mono fun e W' ⟨he, F', hb, hs⟩ => ⟨he, F', hb, d2 _ _ hs⟩
  · exact (r_kill (hP.ref S.ref ha) n).mono fun e W' ⟨he, hb, hs⟩ => ⟨he, hP.then_ S.ref ha hb hs⟩
  · obtain ⟨F1', F2', k1, _⟩ := hQ
    have := q_live k1 n
    rw [q3] at this
    exact this.mono fun e W' ⟨he, hw⟩ => ⟨he, hw⟩
theorem sim_store (hI : MQ w F1 gm rs nx) (hR : DQ w F2 gr ds) (hr : Rel rs nx ds) (ha : ∀ b, F1 b → ¬ F2 b) (hN : ds.length ≤ N) (hC : Kd.C (Kd.int .u8) w A l.length l) (hA : ∀ ad, A = some ad → 0 < l.length → ¬ (F1 ad.block ∨ F2 ad.block)) (had : 0 ≤ ad ∧ ad < 18446744073709551616) (hv : 0 ≤ v ∧ v < 18446744073709551616) (h : (IntKind.u64.wrap kd).tmod 9 = 3) : Calls Try.prog 23 #[.pointer (some ⟨gm, 0, none⟩), .pointer (some ⟨gr, 0, none⟩), .agg #[.int .i64 kd, .int .u64 ad, .int .i64 n, .int .i64 m, .int .u64 v, .slice A l.length c]] w fun e w' => e = .returned (.bool true) ∧ ∃ F', Both w' F' gm gr (N + 1) ∧ Step w w' (fun b => F1 b ∨ F2 b) F' := by
  have S := start hI hR hC hA kd ad n m v c
  obtain ⟨q1, q2⟩ := store_same hr ad n v
  have hd : ∀ W, (W = (w.alloc (.cells #[.int .i64 kd, .int .u64 ad, .int .i64 n, .int .i64 m, .int .u64 v, .slice A l.length c] 54)) ∨ W = (w.alloc (.cells #[.int .i64 kd, .int .u64 ad, .int .i64 n, .int .i64 m, .int .u64 v, .slice A l.length c] 54)).drew) → MQ W F1 gm rs nx ∧ (∀ W' F', Step W W' F1 F' → Step (w.alloc (.cells #[.int .i64 kd, .int .u64 ad, .int .i64 n, .int .i64 m, .int .u64 v, .slice A l.length c] 54)) W' F1 F') ∧ Held w.heap.size kd ad n m v A l c W := fun W hW => by
    rcases hW with rfl | rfl
    · exact ⟨S.mem, fun _ _ h => h, S.held⟩
    · exact ⟨S.mem.drewN 1, fun _ _ h => Step.undrewN (n := 1) h, S.held.drew⟩
  refine (one_store w _ _ kd ad n m v A c l hC h (storeD ds ad n v).1 (PS (w.alloc (.cells #[.int .i64 kd, .int .u64 ad, .int .i64 n, .int .i64 m, .int .u64 v, .slice A l.length c] 54)) F1 gm (storeQ rs ad n v).2 nx) (QS (w.alloc (.cells #[.int .i64 kd, .int .u64 ad, .int .i64 n, .int .i64 m, .int .u64 v, .slice A l.length c] 54)) F1 F2 gm gr (storeQ rs ad n v).2 nx (storeD ds ad n v).2) (S.hp _ _) (S.hq _ _ _)
    (fun W hW => ?_) (fun W hP => ?_)).mono fun e W ⟨he, hQ⟩ => ⟨he, S.fin _ _ _ W _ hQ q2 (by rw [storeD_len]; omega)⟩
  · obtain ⟨d1, d2, d3⟩ := hd W hW
    have := q_store d1 ad n v had hv
    rw [q1] at this
    exact this.mono fun e W' ⟨he, hb, hs⟩ => ⟨he, F1, hb, d2 _ _ hs⟩
  · exact (r_store (hP.ref S.ref ha) ad n v had hv).mono fun e W' ⟨he, hb, hs⟩ => ⟨he, hP.then_ S.ref ha hb hs⟩
theorem sim_write (hI : MQ w F1 gm rs nx) (hR : DQ w F2 gr ds) (hr : Rel rs nx ds) (ha : ∀ b, F1 b → ¬ F2 b) (hN : ds.length ≤ N) (hC : Kd.C (Kd.int .u8) w A l.length l) (hA : ∀ ad, A = some ad → 0 < l.length → ¬ (F1 ad.block ∨ F2 ad.block)) (had : 0 ≤ ad ∧ ad < 18446744073709551616) (hl : l.length ≤ c) (hbs : Bs l) (h : (IntKind.u64.wrap kd).tmod 9 = 5) : Calls Try.prog 23 #[.pointer (some ⟨gm, 0, none⟩), .pointer (some ⟨gr, 0, none⟩), .agg #[.int .i64 kd, .int .u64 ad, .int .i64 n, .int .i64 m, .int .u64 v, .slice A l.length c]] w fun e w' => e = .returned (.bool true) ∧ ∃ F', Both w' F' gm gr (N + 1) ∧ Step w w' (fun b => F1 b ∨ F2 b) F' := by
  have S := start hI hR hC hA kd ad n m v c
  obtain ⟨q1, q2⟩ := write_same hr ad l hbs
  have hd : ∀ W, (W = (w.alloc (.cells #[.int .i64 kd, .int .u64 ad, .int .i64 n, .int .i64 m, .int .u64 v, .slice A l.length c] 54)) ∨ W = (w.alloc (.cells #[.int .i64 kd, .int .u64 ad, .int .i64 n, .int .i64 m, .int .u64 v, .slice A l.length c] 54)).drew) → MQ W F1 gm rs nx ∧ (∀ W' F', Step W W' F1 F' → Step (w.alloc (.cells #[.int .i64 kd, .int .u64 ad, .int .i64 n, .int .i64 m, .int .u64 v, .slice A l.length c] 54)) W' F1 F') ∧ Held w.heap.size kd ad n m v A l c W := fun W hW => by
    rcases hW with rfl | rfl
    · exact ⟨S.mem, fun _ _ h => h, S.held⟩
    · exact ⟨S.mem.drewN 1, fun _ _ h => Step.undrewN (n := 1) h, S.held.drew⟩
  refine (one_write w _ _ kd ad n m v A c l hC h (writeD ds ad l).1 (PS (w.alloc (.cells #[.int .i64 kd, .int .u64 ad, .int .i64 n, .int .i64 m, .int .u64 v, .slice A l.length c] 54)) F1 gm (writeQ rs ad l).2 nx) (QS (w.alloc (.cells #[.int .i64 kd, .int .u64 ad, .int .i64 n, .int .i64 m, .int .u64 v, .slice A l.length c] 54)) F1 F2 gm gr (writeQ rs ad l).2 nx (writeD ds ad l).2) (S.hp _ _) (S.hq _ _ _)
    (fun W hW => ?_) (fun W hP => ?_)).mono fun e W ⟨he, hQ⟩ => ⟨he, S.fin _ _ _ W _ hQ q2 (by rw [writeD_len]; omega)⟩
  · obtain ⟨d1, d2, d3⟩ := hd W hW
    have := q_write d1 ad had A l c d3.2 hl hbs
    rw [q1] at this
    exact this.mono fun e W' ⟨he, hb, hs⟩ => ⟨he, F1, hb, d2 _ _ hs⟩
  · exact (r_write (hP.ref S.ref ha) ad had A l c (S.hp _ _ W hP).2 (fun a e1 e2 e3 => hA a e1 e2 (.inr e3)) hl hbs).mono fun e W' ⟨he, hb, hs⟩ => ⟨he, hP.then_ S.ref ha hb hs⟩
theorem sim_poke (hI : MQ w F1 gm rs nx) (hR : DQ w F2 gr ds) (hr : Rel rs nx ds) (ha : ∀ b, F1 b → ¬ F2 b) (hN : ds.length ≤ N) (hC : Kd.C (Kd.int .u8) w A l.length l) (hA : ∀ ad, A = some ad → 0 < l.length → ¬ (F1 ad.block ∨ F2 ad.block)) (hm : -9223372036854775808 ≤ m ∧ m ≤ 9223372036854775807) (hl : l.length ≤ c) (hbs : Bs l) (h : (IntKind.u64.wrap kd).tmod 9 = 6) : Calls Try.prog 23 #[.pointer (some ⟨gm, 0, none⟩), .pointer (some ⟨gr, 0, none⟩), .agg #[.int .i64 kd, .int .u64 ad, .int .i64 n, .int .i64 m, .int .u64 v, .slice A l.length c]] w fun e w' => e = .returned (.bool true) ∧ ∃ F', Both w' F' gm gr (N + 1) ∧ Step w w' (fun b => F1 b ∨ F2 b) F' := by
  have S := start hI hR hC hA kd ad n m v c
  obtain ⟨q1, q2⟩ := poke_same hr n m l hbs
  have hd : ∀ W, (W = (w.alloc (.cells #[.int .i64 kd, .int .u64 ad, .int .i64 n, .int .i64 m, .int .u64 v, .slice A l.length c] 54)) ∨ W = (w.alloc (.cells #[.int .i64 kd, .int .u64 ad, .int .i64 n, .int .i64 m, .int .u64 v, .slice A l.length c] 54)).drew) → MQ W F1 gm rs nx ∧ (∀ W' F', Step W W' F1 F' → Step (w.alloc (.cells #[.int .i64 kd, .int .u64 ad, .int .i64 n, .int .i64 m, .int .u64 v, .slice A l.length c] 54)) W' F1 F') ∧ Held w.heap.size kd ad n m v A l c W := fun W hW => by
    rcases hW with rfl | rfl
    · exact ⟨S.mem, fun _ _ h => h, S.held⟩
    · exact ⟨S.mem.drewN 1, fun _ _ h => Step.undrewN (n := 1) h, S.held.drew⟩
  refine (one_poke w _ _ kd ad n m v A c l hC h (pokeD ds n m l).1 (PS (w.alloc (.cells #[.int .i64 kd, .int .u64 ad, .int .i64 n, .int .i64 m, .int .u64 v, .slice A l.length c] 54)) F1 gm (pokeQ rs n m l).2 nx) (QS (w.alloc (.cells #[.int .i64 kd, .int .u64 ad, .int .i64 n, .int .i64 m, .int .u64 v, .slice A l.length c] 54)) F1 F2 gm gr (pokeQ rs n m l).2 nx (pokeD ds n m l).2) (S.hp _ _) (S.hq _ _ _)
    (fun W hW => ?_) (fun W hP => ?_)).mono fun e W ⟨he, hQ⟩ => ⟨he, S.fin _ _ _ W _ hQ q2 (by rw [pokeD_len]; omega)⟩
  · obtain ⟨d1, d2, d3⟩ := hd W hW
    have := q_poke d1 n m hm A l c d3.2 hl hbs
    rw [q1] at this
    exact this.mono fun e W' ⟨he, hb, hs⟩ => ⟨he, F1, hb, d2 _ _ hs⟩
  · exact (r_poke (hP.ref S.ref ha) n m hm A l c (S.hp _ _ W hP).2 (fun a e1 e2 e3 => hA a e1 e2 (.inr e3)) hl hbs).mono fun e W' ⟨he, hb, hs⟩ => ⟨he, hP.then_ S.ref ha hb hs⟩
theorem QS.drewN {w1 W : World} (h : QS w1 F1 F2 gm gr rs nx ds W) (q : Nat) : QS w1 F1 F2 gm gr rs nx ds (W.drewN q) := by
  obtain ⟨F1', F2', h1, h2, h3, h4⟩ := h
  exact ⟨F1', F2', h1.drewN q, h2.drewN q, h3, h4.drewN q⟩
theorem sim_bytes (hI : MQ w F1 gm rs nx) (hR : DQ w F2 gr ds) (hr : Rel rs nx ds) (ha : ∀ b, F1 b → ¬ F2 b) (hN : ds.length ≤ N) (hC : Kd.C (Kd.int .u8) w A l.length l) (hA : ∀ ad, A = some ad → 0 < l.length → ¬ (F1 ad.block ∨ F2 ad.block)) (h : (IntKind.u64.wrap kd).tmod 9 = 7) : Calls Try.prog 23 #[.pointer (some ⟨gm, 0, none⟩), .pointer (some ⟨gr, 0, none⟩), .agg #[.int .i64 kd, .int .u64 ad, .int .i64 n, .int .i64 m, .int .u64 v, .slice A l.length c]] w fun e w' => e = .returned (.bool true) ∧ ∃ F', Both w' F' gm gr (N + 1) ∧ Step w w' (fun b => F1 b ∨ F2 b) F' := by
  obtain ⟨b1, b2⟩ := bytes_same hr n
  cases hh : hasD ds n with
  | false =>
    have S := start hI hR hC hA kd ad n m v c
    obtain ⟨b3, b4⟩ := b1 hh
    have h1 := q_bytes S.mem n
    rw [b3] at h1
    refine (one_bytes_no w _ _ kd ad n m v A c l hC h (QS (w.alloc (.cells #[.int .i64 kd, .int .u64 ad, .int .i64 n, .int .i64 m, .int .u64 v, .slice A l.length c] 54)) F1 F2 gm gr rs nx ds) (S.hq _ _ _) (h1.mono fun e W ⟨u, he, hv, hb⟩ => ?_) (fun W hP => ?_) (fun W hP => ?_)).mono fun e W ⟨he, hQ⟩ => ⟨he, S.fin _ _ _ W _ hQ hr (by omega)⟩
    · obtain ⟨A1, c1, rfl, hC1, _⟩ := bv_read hv (by simp)
      exact ⟨A1, c1, he, F1, F2, S.mem.below hb, S.ref.below hb, ha, Step.of_below hb _⟩
    · obtain ⟨F1', F2', k1, k2, k3, k4⟩ := hP
      have := r_has k2 n
      rw [hh] at this
      exact this
    · obtain ⟨F1', F2', k1, k2, k3, k4⟩ := hP
      have := q_live k1 n
      rw [b4] at this
      exact this
  | true =>
    obtain ⟨k, r, rfl, hk, hl⟩ := has_true hh
    obtain ⟨b3, b4⟩ := b2 k r rfl hk hh
    have S := start hI hR hC hA kd ad (k : Int) m v c
    have h1 := q_bytes S.mem (k : Int)
    rw [b3] at h1
    have hlen := (hr.ok r (List.mem_iff_getElem?.2 ⟨k, hk⟩)).len
    refine (one_bytes_yes w _ gr k kd ad m v A c l hC h r.bytes (QS (w.alloc (.cells #[.int .i64 kd, .int .u64 ad, .int .i64 (k : Int), .int .i64 m, .int .u64 v, .slice A l.length c] 54)) F1 F2 gm gr rs nx ds) (S.hq _ _ _) (fun W hP => ?_) (fun W q hP => hP.drewN q) (h1.mono fun e W ⟨u, he, hv, hb⟩ => ?_) (fun W hP => ?_) (fun W hP => ?_)).mono fun e W ⟨he, hQ⟩ => ⟨he, S.fin _ _ _ W _ hQ hr (by omega)⟩
    · obtain ⟨F1', F2', k1, ⟨es, e1, k2⟩, k3, k4⟩ := hP
      obtain ⟨ao, bl, cap, g0, hc, hcm, hat⟩ := k2.at_
      rw [← e1, List.getElem?_map] at hk
      obtain ⟨e, he, rfl⟩ := Option.map_eq_some_iff.1 hk
      obtain ⟨rfl, r0, r1, r2, r3, r4, -⟩ := hat k e he
      exact ⟨bl, es.length, cap, e.cb, _, g0, (List.getElem?_eq_some_iff.1 he).1, r3, rowC (k2.regs k e he).row (by omega)⟩
    · obtain ⟨A1, c1, rfl, hC1, _⟩ := bv_read hv (by simp only; omega)
      exact ⟨A1, c1, he, hC1, F1, F2, S.mem.below hb, S.ref.below hb, ha, Step.of_below hb _⟩
    · obtain ⟨F1', F2', k1, k2, k3, k4⟩ := hP
      have := r_has k2 (k : Int)
      rw [hh] at this
      exact this
    · obtain ⟨F1', F2', k1, k2, k3, k4⟩ := hP
      have := q_live k1 (k : Int)
      rw [b4] at this
      exact this
end
theorem one_ (w : World) (F : Nat → Prop) (gm gr N : Nat) (hB : Both w F gm gr N) (hlim : N < 90000) (kd ad n m v : Int) (A : Option Addr) (c : Nat) (l : List Int) (hC : Kd.C (Kd.int .u8) w A l.length l) (hl : l.length ≤ c) (hbs : Bs l) (hA : ∀ ad, A = some ad → 0 < l.length → ¬ F ad.block)
    (had : 0 ≤ ad ∧ ad < 18446744073709551616) (hn : -9223372036854775808 ≤ n ∧ n < 9223372036854775808) (hm : -9223372036854775808 ≤ m ∧ m < 9223372036854775808) (hv : 0 ≤ v ∧ v < 18446744073709551616) :
    Calls Try.prog 23 #[.pointer (some ⟨gm, 0, none⟩), .pointer (some ⟨gr, 0, none⟩), .agg #[.int .i64 kd, .int .u64 ad, .int .i64 n, .int .i64 m, .int .u64 v, .slice A l.length c]] w fun e w' => e = .returned (.bool true) ∧ ∃ F', Both w' F' gm gr (N + 1) ∧ Step w w' F F' := by
  obtain ⟨F1, F2, rs, nx, ds, rfl, hI, hR, hr, ha, hN⟩ := hB
  rcases (show (IntKind.u64.wrap kd).tmod 9 = 0 ∨ (IntKind.u64.wrap kd).tmod 9 = 1 ∨ (IntKind.u64.wrap kd).tmod 9 = 2 ∨ (IntKind.u64.wrap kd).tmod 9 = 3 ∨ (IntKind.u64.wrap kd).tmod 9 = 4 ∨ (IntKind.u64.wrap kd).tmod 9 = 5 ∨ (IntKind.u64.wrap kd).tmod 9 = 6 ∨ (IntKind.u64.wrap kd).tmod 9 = 7 ∨ (IntKind.u64.wrap kd).tmod 9 = 8 by
    have h0 : 0 ≤ IntKind.u64.wrap kd := by rw [IntKind.wrap_u64]; omega
    rw [Int.tmod_eq_emod_of_nonneg h0]
    omega) with h | h | h | h | h | h | h | h | h
  · exact sim_add hI hR hr ha hN hC hA had hn hlim h
  · exact sim_kill hI hR hr ha hN hC hA h
  · exact sim_load hI hR hr ha hN hC hA had h
  · exact sim_store hI hR hr ha hN hC hA had hv h
  · exact sim_read hI hR hr ha hN hC hA had (by omega) h
  · exact sim_write hI hR hr ha hN hC hA had hl hbs h
  · exact sim_poke hI hR hr ha hN hC hA (by omega) hl hbs h
  · exact sim_bytes hI hR hr ha hN hC hA h
  · exact sim_find hI hR hr ha hN hC hA had h
end Go.Proofs.Ytpjgaacdohiomaa.MemSim
namespace Go.Proofs.Ytpjgaacdohiomaa.MemOp
open Go.RowKit Go.Proofs.Ytpjgaacdohiomaa.PMemCopies Go.Proofs.YtpjgaacdohiomaaW.PrintWords Go.Proofs.YtpjgaacdohiomaaW.PrintLast Go.Proofs.YtpjgaacdohiomaaW.PrintMore Go.Proofs.Ytpjgaacdohiomaa.Mw Go.Proofs.Ytpjgaacdohiomaa.Mem1 Go.Proofs.Ytpjgaacdohiomaa.MemQ Go.Proofs.Ytpjgaacdohiomaa.MemRA Go.Proofs.Ytpjgaacdohiomaa.MemRG Go.Proofs.Ytpjgaacdohiomaa.MemRP Go.Proofs.Ytpjgaacdohiomaa.MemSim
set_option linter.unusedVariables false
set_option linter.unusedSimpArgs false
abbrev OpT := Int × Int × Int × Int × Int × List Int
abbrev kOp : Kd OpT := Kd.pair (Kd.int .i64) (Kd.pair (Kd.int .u64) (Kd.pair (Kd.int .i64) (Kd.pair (Kd.int .i64) (Kd.pair (Kd.int .u64) (Kd.slice 5 (Kd.int .u8))))))
/-- Its numbers are what their kinds allow. -/
def OpOk (p : OpT) : Prop := (0 ≤ p.2.1 ∧ p.2.1 < 18446744073709551616) ∧ (-9223372036854775808 ≤ p.2.2.1 ∧ p.2.2.1 < 9223372036854775808) ∧ (-9223372036854775808 ≤ p.2.2.2.1 ∧ p.2.2.2.1 < 9223372036854775808) ∧ (0 ≤ p.2.2.2.2.1 ∧ p.2.2.2.2.1 < 18446744073709551616) ∧ Bs p.2.2.2.2.2
/-- An element of the script: its six cells. -/
theorem op_at {w : World} {A : Option Addr} {n : Nat} {xs : List OpT} (h : Kd.C kOp w A n xs) (i : Nat) (hi : i < n) :
    ∃ p kd ad k m v l A1 c1, A = some p ∧ w.cell? (p.add (i * 6)) = some (.int .i64 kd) ∧ w.cell? ⟨(p.add (i * 6)).block, (p.add (i * 6)).off + 1, none⟩ = some (.int .u64 ad) ∧ w.cell? ⟨(p.add (i * 6)).block, (p.add (i * 6)).off + 2, none⟩ = some (.int .i64 k) ∧ w.cell? ⟨(p.add (i * 6)).block, (p.add (i * 6)).off + 3, none⟩ = some (.int .i64 m) ∧ w.cell? ⟨(p.add (i * 6)).block, (p.add (i * 6)).off + 4, none⟩ = some (.int .u64 v) ∧ w.cell? ⟨(p.add (i * 6)).block, (p.add (i * 6)).off + 5, none⟩ = some (.slice A1 l.length c1) ∧ l.length ≤ c1 ∧ Kd.C (Kd.int .u8) w A1 l.length l ∧ (kd, ad, k, m, v, l) ∈ xs := by
  obtain ⟨p, c, e, _, hK, hc⟩ := Kd.C_get h ((0, 0, 0, 0, 0, []) : OpT) (i : Int) (by omega) (by omega)
  have hm : xs.getD (i : Int).toNat (0, 0, 0, 0, 0, []) ∈ xs := by
    have hl : i < xs.length := by have := Kd.C_len h; omega
    rw [Int.toNat_natCast, List.getD_eq_getElem?_getD, List.getElem?_eq_getElem hl]
    exact List.getElem_mem hl
  generalize xs.getD (i : Int).toNat (0, 0, 0, 0, 0, []) = q at *
  obtain ⟨kd, ad, k, m, v, l⟩ := q
  obtain ⟨k0, k1, rfl, h0, k10, k11, rfl, h1, k20, k21, rfl, h2, k30, k31, rfl, h3, k40, k41, rfl, h4, ⟨A1, c1, rfl, hl, hC⟩⟩ := hK
  have h0 : k0 = [.int .i64 kd] := h0
  have h1 : k10 = [.int .u64 ad] := h1
  have h2 : k20 = [.int .i64 k] := h2
  have h3 : k30 = [.int .i64 m] := h3
  have h4 : k40 = [.int .u64 v] := h4
  subst h0; subst h1; subst h2; subst h3; subst h4
  have hc : ∀ j u, ([Value.int .i64 kd] ++ ([Value.int .u64 ad] ++ ([Value.int .i64 k] ++ ([Value.int .i64 m] ++ ([Value.int .u64 v] ++ [Value.slice A1 l.length c1])))))[j]? = some u → w.cell? (p.add (i * 6 + j)) = some u := hc
  exact ⟨p, kd, ad, k, m, v, l, A1, c1, e, hc 0 _ rfl, by rw [← add_field _ _ 1 (by omega)]; exact hc 1 _ rfl, by rw [← add_field _ _ 2 (by omega)]; exact hc 2 _ rfl, by rw [← add_field _ _ 3 (by omega)]; exact hc 3 _ rfl, by rw [← add_field _ _ 4 (by omega)]; exact hc 4 _ rfl, by rw [← add_field _ _ 5 (by omega)]; exact hc 5 _ rfl, hl, hC, hm⟩
/-- A row that came in lies below what the call made. -/
theorem row_low {w : World} {A : Option Addr} {l : List Int} (h : Kd.C (Kd.int .u8) w A l.length l) : ∀ ad, A = some ad → 0 < l.length → ad.block < w.heap.size := by
  intro ad e hl
  obtain ⟨ad', c, e', _, hK1, hc⟩ := Kd.C_get h (0 : Int) 0 (by omega) (by omega)
  rw [e] at e'
  cases e'
  have hu := hc 0 (.int .u8 (l.getD (0 : Int).toNat 0)) (by rw [show c = [.int .u8 (l.getD (0 : Int).toNat 0)] from hK1]; rfl)
  have := World.block_lt_of_cell? w _ hu
  unfold Addr.add at this
  split at this <;> exact this
/-- Both, behind the world w0. -/
def StB (w0 w : World) (gm gr n : Nat) : Prop := ∃ F, Both w F gm gr n ∧ (∀ b, F b → w0.heap.size ≤ b) ∧ Below w0.heap.size w0 w
theorem StB.below {w0 w w' : World} {gm gr n : Nat} (h : StB w0 w gm gr n) (hb : Below w.heap.size w w') : StB w0 w' gm gr n := by
  obtain ⟨F, h1, h2, h3⟩ := h
  exact ⟨F, h1.below hb, h2, h3.trans (hb.mono h3.size)⟩
theorem ref_new (w : World) : DQ (w.alloc (.cells #[.slice none 0 0] 52)) (fun b => b = w.heap.size) w.heap.size [] :=
  ⟨[], rfl, ⟨⟨.slice none 0 0, heap_alloc_new w _, World.ownsRow_nil _ _ _ _, fun k hk => by simp [Value.ownBlock] at hk⟩, fun i e he => by simp at he, fun i j e e' he => by simp at he, rfl, fun b hb => by subst hb; simp, by simp⟩⟩
/-- A new pair. -/
theorem StB.new {w0 w1 w2 : World} {F1 : Nat → Prop} {gm : Nat} (hB : Below w0.heap.size w0 w1) (hI : MQ w2 F1 gm [] 0) (hF1 : ∀ b, F1 b → w1.heap.size ≤ b) (hB2 : Below w1.heap.size w1 w2) :
    StB w0 (w2.alloc (.cells #[.slice none 0 0] 52)) gm w2.heap.size 0 := by
  have hb3 := below_alloc (Below.refl w2.heap.size w2) (.cells #[.slice none 0 0] 52)
  refine ⟨_, ⟨F1, _, [], 0, [], rfl, hI.below hb3, ref_new w2, Rel.start, fun b h1 h2 => by have := hI.lt b h1; omega, Nat.le_refl _⟩, ?_, below_alloc (hB.trans (hB2.mono hB.size)) _⟩
  intro b hb
  rcases hb with hb | hb
  · exact Nat.le_trans hB.size (hF1 b hb)
  · have := hB.size; have := hB2.size; omega
end Go.Proofs.Ytpjgaacdohiomaa.MemOp
