/- hash.Index: Copy, walked by hand (maps.Clone by the kit's law of the extern). -/
import Derived.Test.YtfbajampfiodeaaHashKeys
import Derived.Shelf.SlMaps.Clone
namespace Go.Proofs.Ytfbajampfiodeaa.HashCopy
open Go.RowKit Go.Maps Go.Proofs.Ytfbajampfiodeaa.PArrayPlays Go.Proofs.YtfbajampfiodeaaW.PrintWords Go.Proofs.YtfbajampfiodeaaW.PrintLast Go.Proofs.YtfbajampfiodeaaW.PrintMore Go.Proofs.Ytfbajampfiodeaa.Mw Go.Proofs.Ytfbajampfiodeaa.Rx Go.Proofs.Ytfbajampfiodeaa.RxOps Go.Proofs.Ytfbajampfiodeaa.RxPut Go.Proofs.Ytfbajampfiodeaa.RxNew Go.Proofs.Ytfbajampfiodeaa.RxMore Go.Proofs.Ytfbajampfiodeaa.Hm Go.Proofs.Ytfbajampfiodeaa.Hash Go.Proofs.Ytfbajampfiodeaa.Fresh Go.Proofs.Ytfbajampfiodeaa.HashKeys
set_option linter.unusedVariables false
set_option maxRecDepth 100000 in
set_option maxHeartbeats 2000000 in
theorem mapsClone (b : Nat) (es : Array MapEntry) (clock : Nat) (w : World) (hb : w.heap[b]? = some (.map es clock)) :
    Calls Try.prog 64 #[.map (some b)] w fun e w' => e = .returned (.map (some w.heap.size)) ∧ w' = w.alloc (.map es clock) := by
  have hq := fun w => Go.Proofs.run_eql_map_nil_sl (P := Try.prog) w 99 _ _ (some b) Try.underlying99
  go_enter Try.func64, Try.ntmps64
  go_wp2
  rw [run_callFunc_extern Try.func81 (by kernel_rfl) (by kernel_rfl) (by kernel_rfl) (e := Extern.MapsClone.clone) (by kernel_rfl), Go.Proofs.run_maps_clone_sl w 99 hb]
  simp only [Result.andThen]
  rw [Oper.upon_value]
  go_wp2
  rw [Go.Proofs.run_typeAssert_map_sl _ 99 20 _ _ _ Try.underlying99]
  simp only [Result.andThen]
  rw [Oper.upon_value]
  go_wp2
  go_ret
  exact ⟨rfl, rfl⟩
theorem info4 : (Try.prog.info? 4).map (fun i => (i.zero, i.size, i.bytes)) = some (some (.bool false), 1, 1) := by kernel_rfl
theorem boolC {w : World} {b : Nat} {l : List Bool} (h : Row w b 4 (l.map Value.bool)) (hl : l.length ≤ 9223372036854775807) : Kd.C Kd.bool w (some ⟨b, 0, none⟩) l.length l := by
  refine Kd.C_of_reads (d := false) (h1 := fun _ => rfl) ⟨rfl, hl, fun _ => ⟨_, rfl, fun j hj => ?_⟩⟩
  rw [add_plain, h.cell j (by simpa using hj), List.getElem_map, List.getD_eq_getElem?_getD, List.getElem?_eq_getElem hj]
  rfl
/-- A copy, laid. -/
theorem copied {w0 W : World} {F : Nat → Prop} {g bm gt ct : Nat} {sz : Int} {ks : List (Option (List Int))} (h : HIx w0 F g bm gt ct sz ks) {es : Array MapEntry} {clock : Nat} (hb : w0.heap[bm]? = some (.map es clock)) {g' bm' gt' c : Nat}
    (h1 : W.heap[bm']? = some (.map es clock)) (h2 : Row W gt' 4 ((ks.map Option.isSome).map Value.bool)) (h3 : W.heap[g']? = some (.cells #[.int .i64 sz, .map (some bm'), .slice (some ⟨gt', 0, none⟩) ks.length c] 101 (0, 0))) (hc : ks.length ≤ c) (hl : w0.heap.size ≤ g' ∧ w0.heap.size ≤ bm' ∧ w0.heap.size ≤ gt') :
    ∃ F', HIx W F' g' bm' gt' ct sz ks ∧ ∀ b, F' b → w0.heap.size ≤ b := by
  obtain ⟨D, ⟨es', clock', hb', r⟩, hm⟩ := h.map
  rw [hb] at hb'
  cases hb'
  refine ⟨fun b => b = g' ∨ b = bm' ∨ b = gt', ⟨⟨c, h3, hc⟩, ⟨D, ⟨es, clock, h1, r⟩, hm⟩, by rw [List.map_map] at h2; exact h2, ⟨.inl rfl, .inr (.inl rfl), .inr (.inr rfl)⟩, ?_, h.ok⟩, ?_⟩
  · rintro b (rfl | rfl | rfl)
    · exact blk_lt h3
    · exact blk_lt h1
    · exact h2.lt
  · rintro b (rfl | rfl | rfl)
    · exact hl.1
    · exact hl.2.1
    · exact hl.2.2
set_option maxRecDepth 100000 in
set_option maxHeartbeats 4000000 in
theorem Copy_ {w : World} {F : Nat → Prop} {g bm gt ct : Nat} {sz : Int} {ks : List (Option (List Int))} (h : HIx w F g bm gt ct sz ks) :
    Calls Try.prog 36 #[.pointer (some ⟨g, 0, none⟩)] w fun e w' => ∃ F' g' bm' gt', e = .returned (.pointer (some ⟨g', 0, none⟩)) ∧ HIx w' F' g' bm' gt' ct sz ks ∧ (∀ b, F' b → w.heap.size ≤ b) ∧ Below w.heap.size w w' := by
  obtain ⟨c1, g0, g1, g2, hc1⟩ := h.cells
  obtain ⟨D, hD, hm⟩ := h.map
  obtain ⟨es, clock, hb0, _⟩ := hD
  have hlen := h.ok.len
  have hgl : g < w.heap.size := h.lt g h.inF.1
  have HI := Lib.hid h
  have HB0 := Lib.hid hb0
  have HT : Hid (Row w gt 4 ((ks.map Option.isSome).map Value.bool)) := Lib.hid (by rw [List.map_map]; exact h.taken)
  have a0 : ∀ o, (w.alloc o).cell? ⟨g, 0, none⟩ = some (.int .i64 sz) := fun o => old (below_alloc (Below.refl w.heap.size w) o) g0
  have a1 : ∀ o, (w.alloc o).cell? ⟨g, 1, none⟩ = some (.map (some bm)) := fun o => old (below_alloc (Below.refl w.heap.size w) o) g1
  have a2 : ∀ o, (w.alloc o).cell? ⟨g, 2, none⟩ = some (.slice (some ⟨gt, 0, none⟩) ks.length c1) := fun o => old (below_alloc (Below.refl w.heap.size w) o) g2
  clear h hm hb0 hgl
  go_enter Try.func36, Try.ntmps36
  go_wp2
  go_region_law (first
    | (first
        | rw [show (w.alloc (Obj.map es clock)).drew = w.drew.alloc (Obj.map es clock) from rfl]
        | skip
       refine Kd.R_append_rows_step Kd.bool (w0 := w) w.heap.size (by rfl) (.const (.slice none 0 0)) (.tmp 17) 58 4 (.bool false) 1 rfl Try.underlying58 info4 rfl (by decide) (by omega) (.slice none 0 0) ([] : List Bool) (ks.map Option.isSome) (some ⟨gt, 0, none⟩) ks.length c1 (fun _ => True) (fun _ => False) rfl rfl (Kd.R_nil _ _ _ _ _) ?aC (fun _ _ h => h) (fun _ h => h.elim) (fun _ _ => trivial) ?aB ?aS ?aL ?_
       (case aC => first | exact (by have := boolC HT.out (by simp; omega); rw [List.length_map] at this; exact Kd.C_drew this) | exact (by have := boolC HT.out (by simp; omega); rw [List.length_map] at this; exact Kd.C_alloc (Kd.C_drew this) _))
       (case aB => first | exact below_drew (Below.refl _ _) | exact below_alloc (below_drew (Below.refl _ _)) _)
       (case aS => first | exact Nat.le_refl _ | simp)
       (case aL => simp; omega)
       intro v1 w7 ho hb hg hat
       obtain ⟨b7, c7, rfl, k1, k2, _, k3⟩ := ownRow Value.bool rfl (fun hm => hm) ho (by simp; omega)
       rw [List.nil_append] at k1 k3 ⊢
       rw [List.length_map] at k1 ⊢
       have HB7 := Lib.hid (show Below w.heap.size w w7 from hb)
       have HG7 := Lib.hid hg
       have HK7 := Lib.hid (And.intro k1 (And.intro k2 k3))
       have q0 := old hb g0
       have q1 := old hb g1
       have q2 := old hb g2
       clear ho hb hg hat k1 k2 k3)
    | (go_simp
       go_at_call 64
       refine (mapsClone bm es clock _ ?hb).mono ?_
       (case hb => first | exact HB0.out | exact (HB7.out.block bm (Array.getElem?_eq_some_iff.1 HB0.out).1).trans HB0.out)
       rintro e w1 ⟨rfl, rfl⟩)
    | fail)
  all_goals
    have hrow : Row (w7.alloc (Obj.cells #[.int .i64 sz, .map (some w.heap.size), .slice (some ⟨b7, 0, none⟩) ks.length c7] 101)) b7 4 ((ks.map Option.isSome).map Value.bool) := HK7.out.2.2.keep (Below.heap_alloc _ _ _ HK7.out.2.2.lt)
    obtain ⟨F', hF, hL⟩ := copied HI.out HB0.out (g' := w7.heap.size) (bm' := w.heap.size) (gt' := b7) (c := c7) (blk_alloc ((HG7.out.block w.heap.size (by simp) (by simp [Value.ownBlock])).trans (heap_alloc_new w.drew _)) _) hrow (heap_alloc_new w7 _) HK7.out.1 ⟨HB7.out.size, Nat.le_refl _, HK7.out.2.1⟩
    have HF := Lib.hid hF; have HL := Lib.hid hL
    clear hrow hF hL a0 a1 a2 q0 q1 q2 g0 g1 g2
    go_wp2
    go_ret
    exact ⟨F', _, _, _, rfl, HF.out, HL.out, below_alloc HB7.out _⟩
end Go.Proofs.Ytfbajampfiodeaa.HashCopy
