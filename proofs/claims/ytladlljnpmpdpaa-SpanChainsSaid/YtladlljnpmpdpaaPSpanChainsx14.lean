-- Written by a program of this session (a variant of the print), for this claim. Lean checks it.
import Derived.Test.YtladlljnpmpdpaaPSpanChainsx0
import Derived.Test.YtladlljnpmpdpaaPSpanChainsx3
import Derived.Test.YtladlljnpmpdpaaPSpanChainsx6
import Derived.Test.YtladlljnpmpdpaaPSpanChainsx12
import Derived.Test.YtladlljnpmpdpaaPSpanChainsx13
namespace Go.Proofs.Ytladlljnpmpdpaa.PSpanChains
open Go.RowKit Go.Proofs.YtladlljnpmpdpaaW.PrintWords Go.Proofs.YtladlljnpmpdpaaW.PrintLast Go.Proofs.YtladlljnpmpdpaaW.PrintMore
attribute [local go_sem] max2_int min2_int max_two min_two max_three min_three max_four min_four   -- for this text's walks alone
attribute [local go_sem high] Go.Proofs.Ytladlljnpmpdpaa.NotLaw.not_u64 Go.Proofs.Ytladlljnpmpdpaa.NotLaw.not_u32 Go.Proofs.Ytladlljnpmpdpaa.NotLaw.not_u16 Go.Proofs.Ytladlljnpmpdpaa.NotLaw.not_u8
set_option linter.unusedVariables false
set_option linter.unusedSimpArgs false

/-! ### posternlaw15_SpanChains: function 12 -/
def posternlaw15_SpanChains.l0 : Nat → Int → Int → List Int → Int → Int → Int → Int → Int → Int → Option (Bool)
 | 0, _, _, _, _, _, _, _, _, _ => none
 | k + 1, x9, x10, x33, x34, x35, x275000, x275001, x276000, x276001 => if x35 < x34 then (if 0 ≤ x35 then (if x35 < (x33.length : Int) then (if x35 ≥ 20 then ((span_Has.f x275000 x275001 x9).bind fun t281 => (if t281 = true then ((span_Has.f x276000 x276001 x10).bind fun t282 => (some t282)) else (some false))) else ((span_Do.f k (wrap64 ((wrap64 (Int.tmod (IntKind.u64.wrap (rd x33 x35)) 13)) * 16)) ((Int.tmod (IntKind.u64.wrap (Int.tdiv (IntKind.u64.wrap (rd x33 x35)) 13)) 2) == 0) x275000 x275001 x276000 x276001).bind fun bt283 => ((posternlaw15_size.f ((Int.tmod (IntKind.u64.wrap (Int.tdiv (IntKind.u64.wrap (rd x33 x35)) 13)) 2) == 0)).bind fun t287 => ((posternref05_Do.f k (wrap64 ((wrap64 (Int.tmod (IntKind.u64.wrap (rd x33 x35)) 13)) * 16)) t287 x9 x10).bind fun bt288 => (if bt283.2.2 = 0 then (if bt288.1 < bt283.1 then (some false) else (if bt288.1 > bt283.2.1 then (some false) else (posternlaw15_SpanChains.l0 k x10 bt288.1 x33 x34 (wrap64 (x35 + 1)) x276000 x276001 bt283.1 bt283.2.1))) else (some false)))))) else (none)) else (none)) else ((span_Has.f x275000 x275001 x9).bind fun t278 => (if t278 = true then ((span_Has.f x276000 x276001 x10).bind fun t279 => (some t279)) else (some false)))
def posternlaw15_SpanChains.f (k : Nat) (l0 : List Int) (a1_0 : Int) (a1_1 : Int) (a1_2 : Int) (a1_3 : Int) (a2_0 : Int) (a2_1 : Int) : Option (Bool) := (posternlaw15_first.f k).bind fun t273 => (if t273 = true then ((posternref15_Member.f a1_0 a1_1 a2_0).bind fun t276 => ((posternref15_Member.f a1_2 a1_3 a2_1).bind fun t277 => (posternlaw15_SpanChains.l0 k t276 t277 l0 (l0.length : Int) 0 a1_0 a1_1 a1_2 a1_3))) else (some false))
theorem posternlaw15_SpanChains.mono_l : ∀ k, (∀ y0 y1 y2 y3 y4 y5 y6 y7 y8, LeO (posternlaw15_SpanChains.l0 k y0 y1 y2 y3 y4 y5 y6 y7 y8) (posternlaw15_SpanChains.l0 (k + 1) y0 y1 y2 y3 y4 y5 y6 y7 y8))
 | 0 => fun _ _ _ _ _ _ _ _ _ r h => by simp [posternlaw15_SpanChains.l0] at h
 | k + 1 => by
  have ih0 := posternlaw15_SpanChains.mono_l k
  ·
   intro y0 y1 y2 y3 y4 y5 y6 y7 y8
   unfold posternlaw15_SpanChains.l0
   repeat' first
   | (with_reducible exact ih0 _ _ _ _ _ _ _ _ _)
   | (with_reducible exact posternlaw15_first.mono _)
   | (with_reducible exact posternref05_Do.mono _ _ _ _ _)
   | (with_reducible exact span_Do.mono _ _ _ _ _ _ _)
   | (with_reducible exact LeO.refl _)
   | (with_reducible exact LeO.none _)
   | (with_reducible refine LeO.ite ?_ ?_)
   | (with_reducible refine LeO.bind ?_ (fun _ => ?_))
   | exact ih0 _ _ _ _ _ _ _ _ _
   | exact posternlaw15_first.mono _
   | exact posternref05_Do.mono _ _ _ _ _
   | exact span_Do.mono _ _ _ _ _ _ _
   | exact LeO.none _
   | refine LeO.ite ?_ ?_
   | refine LeO.bind ?_ (fun _ => ?_)
theorem posternlaw15_SpanChains.mono : ∀ a0 a1 a2 a3 a4 a5 a6 k, LeO (posternlaw15_SpanChains.f k a0 a1 a2 a3 a4 a5 a6) (posternlaw15_SpanChains.f (k + 1) a0 a1 a2 a3 a4 a5 a6) := by
 intro a0 a1 a2 a3 a4 a5 a6 k
 have ih0 := posternlaw15_SpanChains.mono_l k
 unfold posternlaw15_SpanChains.f
 repeat' first
   | (with_reducible exact ih0 _ _ _ _ _ _ _ _ _)
   | (with_reducible exact posternlaw15_first.mono _)
   | (with_reducible exact posternref05_Do.mono _ _ _ _ _)
   | (with_reducible exact span_Do.mono _ _ _ _ _ _ _)
   | (with_reducible exact LeO.refl _)
   | (with_reducible exact LeO.none _)
   | (with_reducible refine LeO.ite ?_ ?_)
   | (with_reducible refine LeO.bind ?_ (fun _ => ?_))
   | exact ih0 _ _ _ _ _ _ _ _ _
   | exact posternlaw15_first.mono _
   | exact posternref05_Do.mono _ _ _ _ _
   | exact span_Do.mono _ _ _ _ _ _ _
   | exact LeO.none _
   | refine LeO.ite ?_ ?_
   | refine LeO.bind ?_ (fun _ => ?_)
def posternlaw15_SpanChains.T3 : Bool × List (List Nat × List Nat) := (true, [([], []), ([0], [0]), ([], []), ([2], [2]), ([], []), ([], []), ([4, 1, 0, 1, 4, 5], [1, 4]), ([5, 3, 6, 0, 1, 2, 3, 4, 5, 6], [3, 5])])
def posternlaw15_SpanChains.B3 : List Nat := [0, 1, 0, 4, 0, 0, 51, 127]
theorem posternlaw15_SpanChains.tab3 : rtab .any (opsOf Try.f12 3) = posternlaw15_SpanChains.T3 := by kernel_rfl
theorem posternlaw15_SpanChains.bits3 : waitsOk posternlaw15_SpanChains.T3.2 posternlaw15_SpanChains.B3 = true := by kernel_rfl
def posternlaw15_SpanChains.T4 : Bool × List (List Nat × List Nat) := (true, [([], []), ([], []), ([1], [1]), ([0, 2], [0, 2]), ([], []), ([], []), ([5], [5]), ([4, 6, 3], [4, 6]), ([3, 7, 0, 1, 2, 3], [3]), ([7, 8, 0, 1, 2, 3, 4, 5, 6, 7, 8], [7])])
def posternlaw15_SpanChains.B4 : List Nat := [0, 0, 2, 7, 0, 0, 32, 127, 255, 511]
theorem posternlaw15_SpanChains.tab4 : rtab .any (opsOf Try.f12 4) = posternlaw15_SpanChains.T4 := by kernel_rfl
theorem posternlaw15_SpanChains.bits4 : waitsOk posternlaw15_SpanChains.T4.2 posternlaw15_SpanChains.B4 = true := by kernel_rfl
set_option maxHeartbeats 8000000 in
set_option maxRecDepth 100000 in
theorem posternlaw15_SpanChains.calls (k : Nat) (A0 : Option Addr) (c0 : Nat) (l0 : List Int) (a1_0 : Int) (a1_1 : Int) (a1_2 : Int) (a1_3 : Int) (a2_0 : Int) (a2_1 : Int) (r : Bool) (w : World) (hr_ : Aside0 (r = true)) (hr0 : Kd.C (Kd.int .i64) w A0 l0.length l0) (hc0 : l0.length ≤ c0) (h : posternlaw15_SpanChains.f k l0 a1_0 a1_1 a1_2 a1_3 a2_0 a2_1 = some r) :
  Calls Try.prog 12 #[.slice A0 l0.length c0, .agg #[.int .u64 a1_0, .int .u64 a1_1, .int .u64 a1_2, .int .u64 a1_3], .agg #[.int .u64 a2_0, .int .u64 a2_1]] w fun e w' => e = .returned (.bool r) ∧ Below w.heap.size w w' := by
 have hu63 := Try.underlying63
 have hu26 := Try.underlying26
 have hu58 := Try.underlying58
 have HR0 := Aside0.mk hr0
 have HC0 := Aside0.mk hc0
 clear hr0 hc0
 have HB := Aside0.mk (Below.refl w.heap.size w)
 have H : ((posternlaw15_first.f k).bind fun t273 => (if t273 = true then ((posternref15_Member.f a1_0 a1_1 a2_0).bind fun t276 => ((posternref15_Member.f a1_2 a1_3 a2_1).bind fun t277 => (posternlaw15_SpanChains.l0 k t276 t277 l0 (l0.length : Int) 0 a1_0 a1_1 a1_2 a1_3))) else (some false))) = some r := h
 clear h; replace H := Option.bind_eq_some_iff.mp H; obtain ⟨t273, A40, H⟩ := H
 replace H : (if t273 = true then ((posternref15_Member.f a1_0 a1_1 a2_0).bind fun t276 => ((posternref15_Member.f a1_2 a1_3 a2_1).bind fun t277 => (posternlaw15_SpanChains.l0 k t276 t277 l0 (l0.length : Int) 0 a1_0 a1_1 a1_2 a1_3))) else (some false)) = some r := H
 have A4 := Aside0.mk A40; clear A40
 by_cases c5 : t273 = true
 ·
  subst c5
  have H1 : ((posternref15_Member.f a1_0 a1_1 a2_0).bind fun t276 => ((posternref15_Member.f a1_2 a1_3 a2_1).bind fun t277 => (posternlaw15_SpanChains.l0 k t276 t277 l0 (l0.length : Int) 0 a1_0 a1_1 a1_2 a1_3))) = some r := by rw [if_pos rfl] at H; exact H
  clear H; have H := H1; clear H1; replace H := Option.bind_eq_some_iff.mp H; obtain ⟨t276, A60, H⟩ := H
  replace H : ((posternref15_Member.f a1_2 a1_3 a2_1).bind fun t277 => (posternlaw15_SpanChains.l0 k t276 t277 l0 (l0.length : Int) 0 a1_0 a1_1 a1_2 a1_3)) = some r := H
  have A6 := Aside0.mk A60; clear A60; replace H := Option.bind_eq_some_iff.mp H; obtain ⟨t277, A70, H⟩ := H
  replace H : (posternlaw15_SpanChains.l0 k t276 t277 l0 (l0.length : Int) 0 a1_0 a1_1 a1_2 a1_3) = some r := H
  have A7 := Aside0.mk A70; clear A70
  have H' := Aside0.mk H
  clear H
  go_enter Try.func12, Try.ntmps12
  try go_wp2_with (first | ((with_reducible refine gate_dst (N := 4) rfl ?_); refine box_event ?hg (N := 4) ?hd (cs := #[.int .u64 a1_0, .int .u64 a1_1, .int .u64 a1_2, .int .u64 a1_3]) (t := 63) ?hr ?_; (case hd => rfl); (case hg => rfl); (case hr => first | (go_simp; done) | (go_simp; rfl)); intro gb271 hg w8 hbox hb; have n0_ := Aside0.mk (below_step (by repeat (first | (with_reducible first | exact HB.out | apply lA | apply lN | apply lD) | exact HB.out)) hb); have n1_ := Aside0.mk (hbox); have n2_ := Aside0.mk ((by rw [hg]; exact (below_size (by repeat (first | (with_reducible first | exact HB.out | apply lA | apply lN | apply lD) | exact HB.out))) : w.heap.size ≤ gb271)); have n3_ := n2_; clear HB; have HB := n0_; have BK271 := n1_; have GW271 := n2_; have GE271 := n3_; clear n0_ n1_ n2_ n3_; clear hb hbox hg) | ((with_reducible refine gate_dst (N := 5) rfl ?_); refine box_event ?hg (N := 5) ?hd (cs := #[.int .u64 a2_0, .int .u64 a2_1]) (t := 26) ?hr ?_; (case hd => rfl); (case hg => rfl); (case hr => first | (go_simp; done) | (go_simp; rfl)); intro gb272 hg w9 hbox hb; have n0_ := Aside0.mk (blk_below (g := gb271) (o := .cells #[.int .u64 a1_0, .int .u64 a1_1, .int .u64 a1_2, .int .u64 a1_3] 63 (0, 0)) (by (with_reducible repeat (first | apply bN | apply bD | apply bA)); exact BK271.out) hb); have n1_ := Aside0.mk (below_step (by repeat (first | (with_reducible first | exact HB.out | apply lA | apply lN | apply lD | refine lS ?_ ‹_›) | exact HB.out)) hb); have n2_ := Aside0.mk (hbox); have n3_ := Aside0.mk ((by rw [hg]; exact (below_size (by repeat (first | (with_reducible first | exact HB.out | apply lA | apply lN | apply lD | refine lS ?_ ‹_›) | exact HB.out))) : w.heap.size ≤ gb272)); have n4_ := n3_; have n5_ := Aside0.mk ((by rw [hg]; exact Nat.ne_of_lt (blk_lt (g := gb271) (o := .cells #[.int .u64 a1_0, .int .u64 a1_1, .int .u64 a1_2, .int .u64 a1_3] 63 (0, 0)) (by (with_reducible repeat (first | apply bN | apply bD | apply bA)); exact BK271.out)) : gb271 ≠ gb272)); have n6_ := sy n5_; clear BK271; clear HB; have BK271 := n0_; have HB := n1_; have BK272 := n2_; have GW272 := n3_; have GE272 := n4_; have NB271_272 := n5_; have NB272_271 := n6_; clear n0_ n1_ n2_ n3_ n4_ n5_ n6_; clear hb hbox hg) | ((with_reducible refine gate_callee (f := 29) rfl ?_); refine goesL_ (some 19) rfl rfl Try.func29 (by kernel_rfl) rfl #[] rfl (by (try simp only [List.map_toArray, List.map_cons, List.map_nil]); first | done | rfl | (simp only [List.length_drop, List.length_take]; rfl)) ?_; (with_reducible refine (posternlaw15_first.calls k  true _ A4.out).mono ?_); rintro e w10 ⟨rfl, hb⟩; refine ⟨_, rfl, ?_⟩; have n0_ := Aside0.mk (blk_below (g := gb271) (o := .cells #[.int .u64 a1_0, .int .u64 a1_1, .int .u64 a1_2, .int .u64 a1_3] 63 (0, 0)) (by (with_reducible repeat (first | apply bN | apply bD | apply bA)); exact BK271.out) hb); have n1_ := Aside0.mk (blk_below (g := gb272) (o := .cells #[.int .u64 a2_0, .int .u64 a2_1] 26 (0, 0)) (by (with_reducible repeat (first | apply bN | apply bD | apply bA)); exact BK272.out) hb); have n2_ := Aside0.mk (below_step (by repeat (first | (with_reducible first | exact HB.out | apply lA | apply lN | apply lD | refine lS ?_ ‹_›) | exact HB.out)) hb); clear BK271; clear BK272; clear HB; have BK271 := n0_; have BK272 := n1_; have HB := n2_; clear n0_ n1_ n2_; (try clear hb); (try clear hb2); (try clear hk); (try clear hi)))
  have n0_ := Aside0.mk (blk_drew BK271.out); have n1_ := Aside0.mk (blk_drew BK272.out)
  have n2_ := Aside0.mk (below_drew1 HB.out)
  clear BK271; clear BK272; clear HB; have BK271 := n0_; have BK272 := n1_; have HB := n2_; clear n0_ n1_ n2_
  refine start_ (n := 8) (S := fun w' => w'.cell? ⟨gb271, 0, none⟩ = some (.int .u64 a1_0) ∧ w'.cell? ⟨gb271, 1, none⟩ = some (.int .u64 a1_1) ∧ w'.cell? ⟨gb271, 2, none⟩ = some (.int .u64 a1_2) ∧ w'.cell? ⟨gb271, 3, none⟩ = some (.int .u64 a1_3)) (ds := []) #[false, false, false, false, false, false, false, false] (by kernel_rfl) rfl rfl ⟨(blk_cell BK271.out 0).trans rfl, (blk_cell BK271.out 1).trans rfl, (blk_cell BK271.out 2).trans rfl, (blk_cell BK271.out 3).trans rfl⟩ (fun hHeld => ?_); refine with_tabW posternlaw15_SpanChains.tab3 posternlaw15_SpanChains.bits3 (fun HT_ HW_ => ?_)
  generalize w10.drew = w11 at BK271 BK272 HB hHeld ⊢
  refine pure_ (i := 0) (N := some 21) (v := ?_) (a' := ?_) #[true, false, false, false, false, false, false, false] rfl rfl (any_of HT_.out (by kernel_rfl)) (fun _ _ _ h => h) (Or.inl ⟨by rfl, ?_⟩) ?_ ?_
  rotate_left
  ·
   intro w'
   go_simp; with_reducible rfl
  rotate_left
  ·
   simp only [Act.put, List.setIfInBounds_toArray, List.set_cons_zero, List.set_cons_succ, i64_w, i32_w]
   rfl
  refine pure_ (i := 2) (N := some 23) (v := ?_) (a' := ?_) #[true, false, true, false, false, false, false, false] rfl rfl (any_of HT_.out (by kernel_rfl)) (fun _ _ _ h => h) (Or.inl ⟨by rfl, ?_⟩) ?_ ?_
  rotate_left
  ·
   intro w'
   go_simp; with_reducible rfl
  rotate_left
  ·
   simp only [Act.put, List.setIfInBounds_toArray, List.set_cons_zero, List.set_cons_succ, i64_w, i32_w]
   rfl
  refine take_ (i := 1) (N := some 22) (v := ?_) (a' := ?_) #[true, true, true, false, false, false, false, false] rfl rfl (take_ofW HT_.out HW_.out (by kernel_rfl)) (fun _ _ _ h => h) (Or.inl ⟨by rfl, ?_⟩) hHeld ?_ ?_
  rotate_left
  ·
   rintro w' ⟨s0, s1, s2, s3⟩
   go_simp; with_reducible rfl
  rotate_left
  ·
   simp only [Act.put, List.setIfInBounds_toArray, List.set_cons_zero, List.set_cons_succ, i64_w, i32_w]
   rfl
  refine take_ (i := 3) (N := some 24) (v := ?_) (a' := ?_) #[true, true, true, true, false, false, false, false] rfl rfl (take_ofW HT_.out HW_.out (by kernel_rfl)) (fun _ _ _ h => h) (Or.inl ⟨by rfl, ?_⟩) hHeld ?_ ?_
  rotate_left
  ·
   rintro w' ⟨s0, s1, s2, s3⟩
   go_simp; with_reducible rfl
  rotate_left
  ·
   simp only [Act.put, List.setIfInBounds_toArray, List.set_cons_zero, List.set_cons_succ, i64_w, i32_w]
   rfl
  refine join_ (σ := Nat × Nat) 2 #[true, true, true, true, true, true, false, false] (fun s_ => [(7, .pointer (some ⟨s_.1, 0, none⟩)), (8, .pointer (some ⟨s_.2, 0, none⟩))]) (fun s_ w' => (w'.cell? ⟨gb271, 0, none⟩ = some (.int .u64 a1_0) ∧ w'.cell? ⟨gb271, 1, none⟩ = some (.int .u64 a1_1) ∧ w'.cell? ⟨gb271, 2, none⟩ = some (.int .u64 a1_2) ∧ w'.cell? ⟨gb271, 3, none⟩ = some (.int .u64 a1_3)) ∧ (w'.heap[gb271]? = some (.cells #[.int .u64 a1_0, .int .u64 a1_1, .int .u64 a1_2, .int .u64 a1_3] 63 (0, 0))) ∧ (w'.heap[gb272]? = some (.cells #[.int .u64 a2_0, .int .u64 a2_1] 26 (0, 0))) ∧ (w'.heap[s_.1]? = some (.cells #[.int .u64 0, .int .u64 0] 58 (0, 0))) ∧ (w'.heap[s_.2]? = some (.cells #[.int .u64 0, .int .u64 0] 58 (0, 0))) ∧ (w.heap.size ≤ s_.1) ∧ (w.heap.size ≤ s_.1) ∧ (gb271 ≠ s_.1) ∧ (s_.1 ≠ gb271) ∧ (gb272 ≠ s_.1) ∧ (s_.1 ≠ gb272) ∧ (s_.2 ≠ s_.1) ∧ (s_.1 ≠ s_.2) ∧ (w.heap.size ≤ s_.2) ∧ (w.heap.size ≤ s_.2) ∧ (gb271 ≠ s_.2) ∧ (s_.2 ≠ gb271) ∧ (gb272 ≠ s_.2) ∧ (s_.2 ≠ gb272) ∧ (Below w.heap.size w w')) ?_ ?_
  rotate_left
  ·
   intro hCont
   refine two_ (i := 4) (j := 5) (Ni := some 7) (Nj := some 8) #[true, true, true, true, true, false, false, false] #[true, true, true, true, false, true, false, false] rfl rfl rfl rfl (two_of HT_.out (by kernel_rfl)) (by decide) (by decide) (fun K hK => ?_) (fun K hK => ?_)
   ·
    skip
    refine box_step ?hg (N := 7) ?hd (cs := #[.int .u64 0, .int .u64 0]) (t := 58) ?hr ?_; (case hd => rfl); (case hg => rfl); (case hr => first | (go_simp; done) | (go_simp; rfl))
    intro gb274 hg w12 hbox hb
    have n0_ := Aside0.mk (blk_below (g := gb271) (o := .cells #[.int .u64 a1_0, .int .u64 a1_1, .int .u64 a1_2, .int .u64 a1_3] 63 (0, 0)) (by (with_reducible repeat (first | apply bN | apply bD | apply bA)); exact BK271.out) hb)
    have n1_ := Aside0.mk (blk_below (g := gb272) (o := .cells #[.int .u64 a2_0, .int .u64 a2_1] 26 (0, 0)) (by (with_reducible repeat (first | apply bN | apply bD | apply bA)); exact BK272.out) hb)
    have n2_ := Aside0.mk (below_step (by repeat (first | (with_reducible first | exact HB.out | apply lA | apply lN | apply lD | refine lS ?_ ‹_›) | exact HB.out)) hb)
    have n3_ := Aside0.mk (hbox)
    have n4_ := Aside0.mk ((by rw [hg]; exact (below_size (by repeat (first | (with_reducible first | exact HB.out | apply lA | apply lN | apply lD | refine lS ?_ ‹_›) | exact HB.out))) : w.heap.size ≤ gb274))
    have n5_ := Aside0.mk ((by rw [hg]; exact (below_size (by repeat (first | (with_reducible first | exact HB.out | apply lA | apply lN | apply lD | refine lS ?_ ‹_›) | exact HB.out))) : w.heap.size ≤ gb274))
    have n6_ := Aside0.mk ((by rw [hg]; exact Nat.ne_of_lt (blk_lt (g := gb271) (o := .cells #[.int .u64 a1_0, .int .u64 a1_1, .int .u64 a1_2, .int .u64 a1_3] 63 (0, 0)) (by (with_reducible repeat (first | apply bN | apply bD | apply bA)); exact BK271.out)) : gb271 ≠ gb274))
    have n7_ := Aside0.mk ((by rw [hg]; exact Nat.ne_of_gt (blk_lt (g := gb271) (o := .cells #[.int .u64 a1_0, .int .u64 a1_1, .int .u64 a1_2, .int .u64 a1_3] 63 (0, 0)) (by (with_reducible repeat (first | apply bN | apply bD | apply bA)); exact BK271.out)) : gb274 ≠ gb271))
    have n8_ := Aside0.mk ((by rw [hg]; exact Nat.ne_of_lt (blk_lt (g := gb272) (o := .cells #[.int .u64 a2_0, .int .u64 a2_1] 26 (0, 0)) (by (with_reducible repeat (first | apply bN | apply bD | apply bA)); exact BK272.out)) : gb272 ≠ gb274))
    have n9_ := Aside0.mk ((by rw [hg]; exact Nat.ne_of_gt (blk_lt (g := gb272) (o := .cells #[.int .u64 a2_0, .int .u64 a2_1] 26 (0, 0)) (by (with_reducible repeat (first | apply bN | apply bD | apply bA)); exact BK272.out)) : gb274 ≠ gb272))
    clear BK271; clear BK272; clear HB; have BK271 := n0_; have BK272 := n1_; have HB := n2_; have BK274 := n3_; have GW274 := n4_; have GE274 := n5_; have NB271_274 := n6_; have NB274_271 := n7_; have NB272_274 := n8_; have NB274_272 := n9_; clear n0_ n1_ n2_ n3_ n4_ n5_ n6_ n7_ n8_ n9_; clear hb hbox hg
    refine hK.out _ _ ⟨(blk_cell BK271.out 0).trans rfl, (blk_cell BK271.out 1).trans rfl, (blk_cell BK271.out 2).trans rfl, (blk_cell BK271.out 3).trans rfl⟩ (fun hHeld => ?_)
    clear hK K
    refine norm_ (a' := ?_) ?_ ?_
    rotate_left
    ·
     show Act.put _ (some 7) _ = _
     simp only [Act.put, List.setIfInBounds_toArray, List.set_cons_zero, List.set_cons_succ, i64_w, i32_w]
     rfl
    refine one_ (i := 5) (N := some 8) #[true, true, true, true, true, true, false, false] rfl rfl (one_of HT_.out (by kernel_rfl)) (by decide) (fun K hK => ?_)
    refine box_step ?hg (N := 8) ?hd (cs := #[.int .u64 0, .int .u64 0]) (t := 58) ?hr ?_; (case hd => rfl); (case hg => rfl); (case hr => first | (go_simp; done) | (go_simp; rfl))
    intro gb275 hg w13 hbox hb
    have n0_ := Aside0.mk (blk_below (g := gb271) (o := .cells #[.int .u64 a1_0, .int .u64 a1_1, .int .u64 a1_2, .int .u64 a1_3] 63 (0, 0)) (by (with_reducible repeat (first | apply bN | apply bD | apply bA)); exact BK271.out) hb)
    have n1_ := Aside0.mk (blk_below (g := gb272) (o := .cells #[.int .u64 a2_0, .int .u64 a2_1] 26 (0, 0)) (by (with_reducible repeat (first | apply bN | apply bD | apply bA)); exact BK272.out) hb)
    have n2_ := Aside0.mk (blk_below (g := gb274) (o := .cells #[.int .u64 0, .int .u64 0] 58 (0, 0)) (by (with_reducible repeat (first | apply bN | apply bD | apply bA)); exact BK274.out) hb)
    have n3_ := Aside0.mk (below_step (by repeat (first | (with_reducible first | exact HB.out | apply lA | apply lN | apply lD | refine lS ?_ ‹_›) | exact HB.out)) hb)
    have n4_ := Aside0.mk (hbox)
    have n5_ := Aside0.mk ((by rw [hg]; exact (below_size (by repeat (first | (with_reducible first | exact HB.out | apply lA | apply lN | apply lD | refine lS ?_ ‹_›) | exact HB.out))) : w.heap.size ≤ gb275))
    have n6_ := Aside0.mk ((by rw [hg]; exact (below_size (by repeat (first | (with_reducible first | exact HB.out | apply lA | apply lN | apply lD | refine lS ?_ ‹_›) | exact HB.out))) : w.heap.size ≤ gb275))
    have n7_ := Aside0.mk ((by rw [hg]; exact Nat.ne_of_lt (blk_lt (g := gb271) (o := .cells #[.int .u64 a1_0, .int .u64 a1_1, .int .u64 a1_2, .int .u64 a1_3] 63 (0, 0)) (by (with_reducible repeat (first | apply bN | apply bD | apply bA)); exact BK271.out)) : gb271 ≠ gb275))
    have n8_ := Aside0.mk ((by rw [hg]; exact Nat.ne_of_gt (blk_lt (g := gb271) (o := .cells #[.int .u64 a1_0, .int .u64 a1_1, .int .u64 a1_2, .int .u64 a1_3] 63 (0, 0)) (by (with_reducible repeat (first | apply bN | apply bD | apply bA)); exact BK271.out)) : gb275 ≠ gb271))
    have n9_ := Aside0.mk ((by rw [hg]; exact Nat.ne_of_lt (blk_lt (g := gb272) (o := .cells #[.int .u64 a2_0, .int .u64 a2_1] 26 (0, 0)) (by (with_reducible repeat (first | apply bN | apply bD | apply bA)); exact BK272.out)) : gb272 ≠ gb275))
    have n10_ := Aside0.mk ((by rw [hg]; exact Nat.ne_of_gt (blk_lt (g := gb272) (o := .cells #[.int .u64 a2_0, .int .u64 a2_1] 26 (0, 0)) (by (with_reducible repeat (first | apply bN | apply bD | apply bA)); exact BK272.out)) : gb275 ≠ gb272))
    have n11_ := Aside0.mk ((by rw [hg]; exact Nat.ne_of_lt (blk_lt (g := gb274) (o := .cells #[.int .u64 0, .int .u64 0] 58 (0, 0)) (by (with_reducible repeat (first | apply bN | apply bD | apply bA)); exact BK274.out)) : gb274 ≠ gb275))
    have n12_ := Aside0.mk ((by rw [hg]; exact Nat.ne_of_gt (blk_lt (g := gb274) (o := .cells #[.int .u64 0, .int .u64 0] 58 (0, 0)) (by (with_reducible repeat (first | apply bN | apply bD | apply bA)); exact BK274.out)) : gb275 ≠ gb274))
    clear BK271; clear BK272; clear BK274; clear HB; have BK271 := n0_; have BK272 := n1_; have BK274 := n2_; have HB := n3_; have BK275 := n4_; have GW275 := n5_; have GE275 := n6_; have NB271_275 := n7_; have NB275_271 := n8_; have NB272_275 := n9_; have NB275_272 := n10_; have NB274_275 := n11_; have NB275_274 := n12_; clear n0_ n1_ n2_ n3_ n4_ n5_ n6_ n7_ n8_ n9_ n10_ n11_ n12_; clear hb hbox hg
    refine hK.out _ _ ⟨(blk_cell BK271.out 0).trans rfl, (blk_cell BK271.out 1).trans rfl, (blk_cell BK271.out 2).trans rfl, (blk_cell BK271.out 3).trans rfl⟩ (fun hHeld => ?_)
    clear hK K
    refine norm_ (a' := ?_) ?_ ?_
    rotate_left
    ·
     show Act.put _ (some 8) _ = _
     simp only [Act.put, List.setIfInBounds_toArray, List.set_cons_zero, List.set_cons_succ, i64_w, i32_w]
     rfl
    exact norm_ (by simp only [putAll, Act.put, List.setIfInBounds_toArray, List.set_cons_zero, List.set_cons_succ]) (hCont (gb274, gb275) _ ⟨hHeld, (by (with_reducible repeat (first | apply bN | apply bD | apply bA)); exact BK271.out), (by (with_reducible repeat (first | apply bN | apply bD | apply bA)); exact BK272.out), (by (with_reducible repeat (first | apply bN | apply bD | apply bA)); exact BK274.out), (by (with_reducible repeat (first | apply bN | apply bD | apply bA)); exact BK275.out), GW274.out, GE274.out, NB271_274.out, NB274_271.out, NB272_274.out, NB274_272.out, NB275_274.out, NB274_275.out, GW275.out, GE275.out, NB271_275.out, NB275_271.out, NB272_275.out, NB275_272.out, (by repeat (first | (with_reducible first | exact HB.out | apply lA | apply lN | apply lD | refine lS ?_ ‹_›) | exact HB.out))⟩)
   ·
    skip
    refine box_step ?hg (N := 8) ?hd (cs := #[.int .u64 0, .int .u64 0]) (t := 58) ?hr ?_; (case hd => rfl); (case hg => rfl); (case hr => first | (go_simp; done) | (go_simp; rfl))
    intro gb275 hg w12 hbox hb
    have n0_ := Aside0.mk (blk_below (g := gb271) (o := .cells #[.int .u64 a1_0, .int .u64 a1_1, .int .u64 a1_2, .int .u64 a1_3] 63 (0, 0)) (by (with_reducible repeat (first | apply bN | apply bD | apply bA)); exact BK271.out) hb)
    have n1_ := Aside0.mk (blk_below (g := gb272) (o := .cells #[.int .u64 a2_0, .int .u64 a2_1] 26 (0, 0)) (by (with_reducible repeat (first | apply bN | apply bD | apply bA)); exact BK272.out) hb)
    have n2_ := Aside0.mk (below_step (by repeat (first | (with_reducible first | exact HB.out | apply lA | apply lN | apply lD | refine lS ?_ ‹_›) | exact HB.out)) hb)
    have n3_ := Aside0.mk (hbox)
    have n4_ := Aside0.mk ((by rw [hg]; exact (below_size (by repeat (first | (with_reducible first | exact HB.out | apply lA | apply lN | apply lD | refine lS ?_ ‹_›) | exact HB.out))) : w.heap.size ≤ gb275))
    have n5_ := Aside0.mk ((by rw [hg]; exact (below_size (by repeat (first | (with_reducible first | exact HB.out | apply lA | apply lN | apply lD | refine lS ?_ ‹_›) | exact HB.out))) : w.heap.size ≤ gb275))
    have n6_ := Aside0.mk ((by rw [hg]; exact Nat.ne_of_lt (blk_lt (g := gb271) (o := .cells #[.int .u64 a1_0, .int .u64 a1_1, .int .u64 a1_2, .int .u64 a1_3] 63 (0, 0)) (by (with_reducible repeat (first | apply bN | apply bD | apply bA)); exact BK271.out)) : gb271 ≠ gb275))
    have n7_ := Aside0.mk ((by rw [hg]; exact Nat.ne_of_gt (blk_lt (g := gb271) (o := .cells #[.int .u64 a1_0, .int .u64 a1_1, .int .u64 a1_2, .int .u64 a1_3] 63 (0, 0)) (by (with_reducible repeat (first | apply bN | apply bD | apply bA)); exact BK271.out)) : gb275 ≠ gb271))
    have n8_ := Aside0.mk ((by rw [hg]; exact Nat.ne_of_lt (blk_lt (g := gb272) (o := .cells #[.int .u64 a2_0, .int .u64 a2_1] 26 (0, 0)) (by (with_reducible repeat (first | apply bN | apply bD | apply bA)); exact BK272.out)) : gb272 ≠ gb275))
    have n9_ := Aside0.mk ((by rw [hg]; exact Nat.ne_of_gt (blk_lt (g := gb272) (o := .cells #[.int .u64 a2_0, .int .u64 a2_1] 26 (0, 0)) (by (with_reducible repeat (first | apply bN | apply bD | apply bA)); exact BK272.out)) : gb275 ≠ gb272))
    clear BK271; clear BK272; clear HB; have BK271 := n0_; have BK272 := n1_; have HB := n2_; have BK275 := n3_; have GW275 := n4_; have GE275 := n5_; have NB271_275 := n6_; have NB275_271 := n7_; have NB272_275 := n8_; have NB275_272 := n9_; clear n0_ n1_ n2_ n3_ n4_ n5_ n6_ n7_ n8_ n9_; clear hb hbox hg
    refine hK.out _ _ ⟨(blk_cell BK271.out 0).trans rfl, (blk_cell BK271.out 1).trans rfl, (blk_cell BK271.out 2).trans rfl, (blk_cell BK271.out 3).trans rfl⟩ (fun hHeld => ?_)
    clear hK K
    refine norm_ (a' := ?_) ?_ ?_
    rotate_left
    ·
     show Act.put _ (some 8) _ = _
     simp only [Act.put, List.setIfInBounds_toArray, List.set_cons_zero, List.set_cons_succ, i64_w, i32_w]
     rfl
    refine one_ (i := 4) (N := some 7) #[true, true, true, true, true, true, false, false] rfl rfl (one_of HT_.out (by kernel_rfl)) (by decide) (fun K hK => ?_)
    refine box_step ?hg (N := 7) ?hd (cs := #[.int .u64 0, .int .u64 0]) (t := 58) ?hr ?_; (case hd => rfl); (case hg => rfl); (case hr => first | (go_simp; done) | (go_simp; rfl))
    intro gb274 hg w13 hbox hb
    have n0_ := Aside0.mk (blk_below (g := gb271) (o := .cells #[.int .u64 a1_0, .int .u64 a1_1, .int .u64 a1_2, .int .u64 a1_3] 63 (0, 0)) (by (with_reducible repeat (first | apply bN | apply bD | apply bA)); exact BK271.out) hb)
    have n1_ := Aside0.mk (blk_below (g := gb272) (o := .cells #[.int .u64 a2_0, .int .u64 a2_1] 26 (0, 0)) (by (with_reducible repeat (first | apply bN | apply bD | apply bA)); exact BK272.out) hb)
    have n2_ := Aside0.mk (blk_below (g := gb275) (o := .cells #[.int .u64 0, .int .u64 0] 58 (0, 0)) (by (with_reducible repeat (first | apply bN | apply bD | apply bA)); exact BK275.out) hb)
    have n3_ := Aside0.mk (below_step (by repeat (first | (with_reducible first | exact HB.out | apply lA | apply lN | apply lD | refine lS ?_ ‹_›) | exact HB.out)) hb)
    have n4_ := Aside0.mk (hbox)
    have n5_ := Aside0.mk ((by rw [hg]; exact (below_size (by repeat (first | (with_reducible first | exact HB.out | apply lA | apply lN | apply lD | refine lS ?_ ‹_›) | exact HB.out))) : w.heap.size ≤ gb274))
    have n6_ := Aside0.mk ((by rw [hg]; exact (below_size (by repeat (first | (with_reducible first | exact HB.out | apply lA | apply lN | apply lD | refine lS ?_ ‹_›) | exact HB.out))) : w.heap.size ≤ gb274))
    have n7_ := Aside0.mk ((by rw [hg]; exact Nat.ne_of_lt (blk_lt (g := gb271) (o := .cells #[.int .u64 a1_0, .int .u64 a1_1, .int .u64 a1_2, .int .u64 a1_3] 63 (0, 0)) (by (with_reducible repeat (first | apply bN | apply bD | apply bA)); exact BK271.out)) : gb271 ≠ gb274))
    have n8_ := Aside0.mk ((by rw [hg]; exact Nat.ne_of_gt (blk_lt (g := gb271) (o := .cells #[.int .u64 a1_0, .int .u64 a1_1, .int .u64 a1_2, .int .u64 a1_3] 63 (0, 0)) (by (with_reducible repeat (first | apply bN | apply bD | apply bA)); exact BK271.out)) : gb274 ≠ gb271))
    have n9_ := Aside0.mk ((by rw [hg]; exact Nat.ne_of_lt (blk_lt (g := gb272) (o := .cells #[.int .u64 a2_0, .int .u64 a2_1] 26 (0, 0)) (by (with_reducible repeat (first | apply bN | apply bD | apply bA)); exact BK272.out)) : gb272 ≠ gb274))
    have n10_ := Aside0.mk ((by rw [hg]; exact Nat.ne_of_gt (blk_lt (g := gb272) (o := .cells #[.int .u64 a2_0, .int .u64 a2_1] 26 (0, 0)) (by (with_reducible repeat (first | apply bN | apply bD | apply bA)); exact BK272.out)) : gb274 ≠ gb272))
    have n11_ := Aside0.mk ((by rw [hg]; exact Nat.ne_of_lt (blk_lt (g := gb275) (o := .cells #[.int .u64 0, .int .u64 0] 58 (0, 0)) (by (with_reducible repeat (first | apply bN | apply bD | apply bA)); exact BK275.out)) : gb275 ≠ gb274))
    have n12_ := Aside0.mk ((by rw [hg]; exact Nat.ne_of_gt (blk_lt (g := gb275) (o := .cells #[.int .u64 0, .int .u64 0] 58 (0, 0)) (by (with_reducible repeat (first | apply bN | apply bD | apply bA)); exact BK275.out)) : gb274 ≠ gb275))
    clear BK271; clear BK272; clear BK275; clear HB; have BK271 := n0_; have BK272 := n1_; have BK275 := n2_; have HB := n3_; have BK274 := n4_; have GW274 := n5_; have GE274 := n6_; have NB271_274 := n7_; have NB274_271 := n8_; have NB272_274 := n9_; have NB274_272 := n10_; have NB275_274 := n11_; have NB274_275 := n12_; clear n0_ n1_ n2_ n3_ n4_ n5_ n6_ n7_ n8_ n9_ n10_ n11_ n12_; clear hb hbox hg
    refine hK.out _ _ ⟨(blk_cell BK271.out 0).trans rfl, (blk_cell BK271.out 1).trans rfl, (blk_cell BK271.out 2).trans rfl, (blk_cell BK271.out 3).trans rfl⟩ (fun hHeld => ?_)
    clear hK K
    refine norm_ (a' := ?_) ?_ ?_
    rotate_left
    ·
     show Act.put _ (some 7) _ = _
     simp only [Act.put, List.setIfInBounds_toArray, List.set_cons_zero, List.set_cons_succ, i64_w, i32_w]
     rfl
    exact norm_ (by simp only [putAll, Act.put, List.setIfInBounds_toArray, List.set_cons_zero, List.set_cons_succ]) (hCont (gb274, gb275) _ ⟨hHeld, (by (with_reducible repeat (first | apply bN | apply bD | apply bA)); exact BK271.out), (by (with_reducible repeat (first | apply bN | apply bD | apply bA)); exact BK272.out), (by (with_reducible repeat (first | apply bN | apply bD | apply bA)); exact BK274.out), (by (with_reducible repeat (first | apply bN | apply bD | apply bA)); exact BK275.out), GW274.out, GE274.out, NB271_274.out, NB274_271.out, NB272_274.out, NB274_272.out, NB275_274.out, NB274_275.out, GW275.out, GE275.out, NB271_275.out, NB275_271.out, NB272_275.out, NB275_272.out, (by repeat (first | (with_reducible first | exact HB.out | apply lA | apply lN | apply lD | refine lS ?_ ‹_›) | exact HB.out))⟩)
  rintro ⟨gb274, gb275⟩ w14 ⟨hS_, h0_, h1_, h2_, h3_, h4_, h5_, h6_, h7_, h8_, h9_, h10_, h11_, h12_, h13_, h14_, h15_, h16_, h17_, h18_⟩
  have n0_ : Aside0 (w14.heap[gb271]? = some (.cells #[.int .u64 a1_0, .int .u64 a1_1, .int .u64 a1_2, .int .u64 a1_3] 63 (0, 0))) := ⟨h0_⟩
  have n1_ : Aside0 (w14.heap[gb272]? = some (.cells #[.int .u64 a2_0, .int .u64 a2_1] 26 (0, 0))) := ⟨h1_⟩
  have n2_ : Aside0 (w14.heap[gb274]? = some (.cells #[.int .u64 0, .int .u64 0] 58 (0, 0))) := ⟨h2_⟩
  have n3_ : Aside0 (w14.heap[gb275]? = some (.cells #[.int .u64 0, .int .u64 0] 58 (0, 0))) := ⟨h3_⟩
  have n4_ : Aside0 (w.heap.size ≤ gb274) := ⟨h4_⟩
  have n5_ : Aside0 (w.heap.size ≤ gb274) := ⟨h5_⟩
  have n6_ : Aside0 (gb271 ≠ gb274) := ⟨h6_⟩
  have n7_ : Aside0 (gb274 ≠ gb271) := ⟨h7_⟩
  have n8_ : Aside0 (gb272 ≠ gb274) := ⟨h8_⟩
  have n9_ : Aside0 (gb274 ≠ gb272) := ⟨h9_⟩
  have n10_ : Aside0 (gb275 ≠ gb274) := ⟨h10_⟩
  have n11_ : Aside0 (gb274 ≠ gb275) := ⟨h11_⟩
  have n12_ : Aside0 (w.heap.size ≤ gb275) := ⟨h12_⟩
  have n13_ : Aside0 (w.heap.size ≤ gb275) := ⟨h13_⟩
  have n14_ : Aside0 (gb271 ≠ gb275) := ⟨h14_⟩
  have n15_ : Aside0 (gb275 ≠ gb271) := ⟨h15_⟩
  have n16_ : Aside0 (gb272 ≠ gb275) := ⟨h16_⟩
  have n17_ : Aside0 (gb275 ≠ gb272) := ⟨h17_⟩
  have n18_ : Aside0 (Below w.heap.size w w14) := ⟨h18_⟩
  clear BK271; clear BK272; clear HB; clear h0_ h1_ h2_ h3_ h4_ h5_ h6_ h7_ h8_ h9_ h10_ h11_ h12_ h13_ h14_ h15_ h16_ h17_ h18_; have BK271 := n0_; have BK272 := n1_; have BK274 := n2_; have BK275 := n3_; have GW274 := n4_; have GE274 := n5_; have NB271_274 := n6_; have NB274_271 := n7_; have NB272_274 := n8_; have NB274_272 := n9_; have NB275_274 := n10_; have NB274_275 := n11_; have GW275 := n12_; have GE275 := n13_; have NB271_275 := n14_; have NB275_271 := n15_; have NB272_275 := n16_; have NB275_272 := n17_; have HB := n18_; clear n0_ n1_ n2_ n3_ n4_ n5_ n6_ n7_ n8_ n9_ n10_ n11_ n12_ n13_ n14_ n15_ n16_ n17_ n18_
  have hHeld : w14.cell? ⟨gb271, 0, none⟩ = some (.int .u64 a1_0) ∧ w14.cell? ⟨gb271, 1, none⟩ = some (.int .u64 a1_1) ∧ w14.cell? ⟨gb271, 2, none⟩ = some (.int .u64 a1_2) ∧ w14.cell? ⟨gb271, 3, none⟩ = some (.int .u64 a1_3) := hS_
  refine norm_ (a' := ?_) ?_ ?_
  rotate_left
  ·
   simp only [putAll, Act.put, List.setIfInBounds_toArray, List.set_cons_zero, List.set_cons_succ]
   rfl
  refine one_ (i := 6) (N := none) #[true, true, true, true, true, true, true, false] rfl rfl (one_of HT_.out (by kernel_rfl)) (by decide) (fun K hK => ?_)
  have hs15 : w14.cell? ⟨gb274, 0, none⟩ = some (.int .u64 0) := (blk_cell BK274.out 0).trans rfl
  have hfs15 := blk_frozen BK274.out 0
  have hns15_0 := NB271_274.out
  have hns15_1 := NB272_274.out
  have hns15_3 := NB275_274.out
  have hms15_0 := NB274_271.out
  have hms15_1 := NB274_272.out
  have hms15_3 := NB274_275.out
  have hs16 : w14.cell? ⟨gb274, 1, none⟩ = some (.int .u64 0) := (blk_cell BK274.out 1).trans rfl
  have hfs16 := blk_frozen BK274.out 1
  have hns16_0 := NB271_274.out
  have hns16_1 := NB272_274.out
  have hns16_3 := NB275_274.out
  have hms16_0 := NB274_271.out
  have hms16_1 := NB274_272.out
  have hms16_3 := NB274_275.out
  refine skip_ (w1 := ?_) (by rfl) rfl ?_ ?_
  rotate_left
  ·
   go_simp
   rfl
  refine hK.out _ _ ⟨((cell_far (p := ⟨gb274, _, none⟩) NB271_274.out _).trans (((cell_far (p := ⟨gb274, _, none⟩) NB271_274.out _).trans (hHeld.1)))), ((cell_far (p := ⟨gb274, _, none⟩) NB271_274.out _).trans (((cell_far (p := ⟨gb274, _, none⟩) NB271_274.out _).trans (hHeld.2.1)))), ((cell_far (p := ⟨gb274, _, none⟩) NB271_274.out _).trans (((cell_far (p := ⟨gb274, _, none⟩) NB271_274.out _).trans (hHeld.2.2.1)))), ((cell_far (p := ⟨gb274, _, none⟩) NB271_274.out _).trans (((cell_far (p := ⟨gb274, _, none⟩) NB271_274.out _).trans (hHeld.2.2.2))))⟩ (fun hHeld => ?_)
  clear hK K
  refine one_ (i := 7) (N := none) #[true, true, true, true, true, true, true, true] rfl rfl (one_of HT_.out (by kernel_rfl)) (by decide) (fun K hK => ?_)
  have hs17 : w14.cell? ⟨gb275, 0, none⟩ = some (.int .u64 0) := (blk_cell BK275.out 0).trans rfl
  have hfs17 := blk_frozen BK275.out 0
  have hns17_0 := NB271_275.out
  have hns17_1 := NB272_275.out
  have hns17_2 := NB274_275.out
  have hms17_0 := NB275_271.out
  have hms17_1 := NB275_272.out
  have hms17_2 := NB275_274.out
  have hs18 : w14.cell? ⟨gb275, 1, none⟩ = some (.int .u64 0) := (blk_cell BK275.out 1).trans rfl
  have hfs18 := blk_frozen BK275.out 1
  have hns18_0 := NB271_275.out
  have hns18_1 := NB272_275.out
  have hns18_2 := NB274_275.out
  have hms18_0 := NB275_271.out
  have hms18_1 := NB275_272.out
  have hms18_2 := NB275_274.out
  refine skip_ (w1 := ?_) (by rfl) rfl ?_ ?_
  rotate_left
  ·
   go_simp
   rfl
  refine hK.out _ _ ⟨((cell_far (p := ⟨gb275, _, none⟩) NB271_275.out _).trans (((cell_far (p := ⟨gb275, _, none⟩) NB271_275.out _).trans (hHeld.1)))), ((cell_far (p := ⟨gb275, _, none⟩) NB271_275.out _).trans (((cell_far (p := ⟨gb275, _, none⟩) NB271_275.out _).trans (hHeld.2.1)))), ((cell_far (p := ⟨gb275, _, none⟩) NB271_275.out _).trans (((cell_far (p := ⟨gb275, _, none⟩) NB271_275.out _).trans (hHeld.2.2.1)))), ((cell_far (p := ⟨gb275, _, none⟩) NB271_275.out _).trans (((cell_far (p := ⟨gb275, _, none⟩) NB271_275.out _).trans (hHeld.2.2.2))))⟩ (fun hHeld => ?_)
  clear hK K
  refine done_ (done_of HT_.out (by kernel_rfl)) ?_
  try go_wp2
  have n0_ : Aside0 (((((w14.setCell ⟨gb274, 0, none⟩ (.int .u64 a1_0)).setCell ⟨gb274, 1, none⟩ (.int .u64 a1_1)).setCell ⟨gb275, 0, none⟩ (.int .u64 a1_2)).setCell ⟨gb275, 1, none⟩ (.int .u64 a1_3)).heap[gb271]? = some (.cells #[.int .u64 a1_0, .int .u64 a1_1, .int .u64 a1_2, .int .u64 a1_3] 63 (0, 0))) := ⟨by (with_reducible repeat (first | apply bN | apply bD | apply bA)); refine blk_far ?_ NB271_275.out _; (with_reducible repeat (first | apply bN | apply bD | apply bA)); refine blk_far ?_ NB271_275.out _; (with_reducible repeat (first | apply bN | apply bD | apply bA)); refine blk_far ?_ NB271_274.out _; (with_reducible repeat (first | apply bN | apply bD | apply bA)); refine blk_far ?_ NB271_274.out _; (with_reducible repeat (first | apply bN | apply bD | apply bA)); exact BK271.out⟩
  have n1_ : Aside0 (((((w14.setCell ⟨gb274, 0, none⟩ (.int .u64 a1_0)).setCell ⟨gb274, 1, none⟩ (.int .u64 a1_1)).setCell ⟨gb275, 0, none⟩ (.int .u64 a1_2)).setCell ⟨gb275, 1, none⟩ (.int .u64 a1_3)).heap[gb272]? = some (.cells #[.int .u64 a2_0, .int .u64 a2_1] 26 (0, 0))) := ⟨by (with_reducible repeat (first | apply bN | apply bD | apply bA)); refine blk_far ?_ NB272_275.out _; (with_reducible repeat (first | apply bN | apply bD | apply bA)); refine blk_far ?_ NB272_275.out _; (with_reducible repeat (first | apply bN | apply bD | apply bA)); refine blk_far ?_ NB272_274.out _; (with_reducible repeat (first | apply bN | apply bD | apply bA)); refine blk_far ?_ NB272_274.out _; (with_reducible repeat (first | apply bN | apply bD | apply bA)); exact BK272.out⟩
  have n2_ : Aside0 (((((w14.setCell ⟨gb274, 0, none⟩ (.int .u64 a1_0)).setCell ⟨gb274, 1, none⟩ (.int .u64 a1_1)).setCell ⟨gb275, 0, none⟩ (.int .u64 a1_2)).setCell ⟨gb275, 1, none⟩ (.int .u64 a1_3)).heap[gb274]? = some (.cells #[.int .u64 a1_0, .int .u64 a1_1] 58 (0, 0))) := ⟨by (with_reducible repeat (first | apply bN | apply bD | apply bA)); refine blk_far ?_ NB274_275.out _; (with_reducible repeat (first | apply bN | apply bD | apply bA)); refine blk_far ?_ NB274_275.out _; (with_reducible repeat (first | apply bN | apply bD | apply bA)); refine blk_put (cs := #[.int .u64 a1_0, .int .u64 0]) ?_ 1 _ rfl; (with_reducible repeat (first | apply bN | apply bD | apply bA)); refine blk_put (cs := #[.int .u64 0, .int .u64 0]) ?_ 0 _ rfl; (with_reducible repeat (first | apply bN | apply bD | apply bA)); exact BK274.out⟩
  have n3_ : Aside0 (((((w14.setCell ⟨gb274, 0, none⟩ (.int .u64 a1_0)).setCell ⟨gb274, 1, none⟩ (.int .u64 a1_1)).setCell ⟨gb275, 0, none⟩ (.int .u64 a1_2)).setCell ⟨gb275, 1, none⟩ (.int .u64 a1_3)).heap[gb275]? = some (.cells #[.int .u64 a1_2, .int .u64 a1_3] 58 (0, 0))) := ⟨by (with_reducible repeat (first | apply bN | apply bD | apply bA)); refine blk_put (cs := #[.int .u64 a1_2, .int .u64 0]) ?_ 1 _ rfl; (with_reducible repeat (first | apply bN | apply bD | apply bA)); refine blk_put (cs := #[.int .u64 0, .int .u64 0]) ?_ 0 _ rfl; (with_reducible repeat (first | apply bN | apply bD | apply bA)); refine blk_far ?_ NB275_274.out _; (with_reducible repeat (first | apply bN | apply bD | apply bA)); refine blk_far ?_ NB275_274.out _; (with_reducible repeat (first | apply bN | apply bD | apply bA)); exact BK275.out⟩
  have n4_ : Aside0 (Below w.heap.size w ((((w14.setCell ⟨gb274, 0, none⟩ (.int .u64 a1_0)).setCell ⟨gb274, 1, none⟩ (.int .u64 a1_1)).setCell ⟨gb275, 0, none⟩ (.int .u64 a1_2)).setCell ⟨gb275, 1, none⟩ (.int .u64 a1_3))) := ⟨by repeat (first | (with_reducible first | exact HB.out | apply lA | apply lN | apply lD | refine lS ?_ ‹_›) | exact HB.out)⟩
  (try clear BK271)
  (try clear BK272)
  (try clear BK274)
  (try clear BK275)
  (try clear HB)
  generalize ((((w14.setCell ⟨gb274, 0, none⟩ (.int .u64 a1_0)).setCell ⟨gb274, 1, none⟩ (.int .u64 a1_1)).setCell ⟨gb275, 0, none⟩ (.int .u64 a1_2)).setCell ⟨gb275, 1, none⟩ (.int .u64 a1_3)) = w19 at n0_ n1_ n2_ n3_ n4_ ⊢
  have BK271 := n0_; have BK272 := n1_; have BK274 := n2_; have BK275 := n3_; have HB := n4_; clear n0_ n1_ n2_ n3_ n4_; have n0_ := Aside0.mk (blk_drew BK271.out); have n1_ := Aside0.mk (blk_drew BK272.out); have n2_ := Aside0.mk (blk_drew BK274.out); have n3_ := Aside0.mk (blk_drew BK275.out)
  have n4_ := Aside0.mk (below_drew1 HB.out)
  clear BK271; clear BK272; clear BK274; clear BK275; clear HB; have BK271 := n0_; have BK272 := n1_; have BK274 := n2_; have BK275 := n3_; have HB := n4_; clear n0_ n1_ n2_ n3_ n4_
  refine start_ (n := 10) (S := fun w' => w'.cell? ⟨gb274, 0, none⟩ = some (.int .u64 a1_0) ∧ w'.cell? ⟨gb274, 1, none⟩ = some (.int .u64 a1_1) ∧ w'.cell? ⟨gb272, 0, none⟩ = some (.int .u64 a2_0) ∧ w'.cell? ⟨gb272, 1, none⟩ = some (.int .u64 a2_1) ∧ w'.cell? ⟨gb275, 0, none⟩ = some (.int .u64 a1_2) ∧ w'.cell? ⟨gb275, 1, none⟩ = some (.int .u64 a1_3)) (ds := []) #[false, false, false, false, false, false, false, false, false, false] (by kernel_rfl) rfl rfl ⟨(blk_cell BK274.out 0).trans rfl, (blk_cell BK274.out 1).trans rfl, (blk_cell BK272.out 0).trans rfl, (blk_cell BK272.out 1).trans rfl, (blk_cell BK275.out 0).trans rfl, (blk_cell BK275.out 1).trans rfl⟩ (fun hHeld => ?_); refine with_tabW posternlaw15_SpanChains.tab4 posternlaw15_SpanChains.bits4 (fun HT_ HW_ => ?_)
  generalize w19.drew = w20 at BK271 BK272 BK274 BK275 HB hHeld ⊢
  refine pure_ (i := 1) (N := some 26) (v := ?_) (a' := ?_) #[false, true, false, false, false, false, false, false, false, false] rfl rfl (any_of HT_.out (by kernel_rfl)) (fun _ _ _ h => h) (Or.inl ⟨by rfl, ?_⟩) ?_ ?_
  rotate_left
  ·
   intro w'
   go_simp; with_reducible rfl
  rotate_left
  ·
   simp only [Act.put, List.setIfInBounds_toArray, List.set_cons_zero, List.set_cons_succ, i64_w, i32_w]
   rfl
  refine pure_ (i := 5) (N := some 30) (v := ?_) (a' := ?_) #[false, true, false, false, false, true, false, false, false, false] rfl rfl (any_of HT_.out (by kernel_rfl)) (fun _ _ _ h => h) (Or.inl ⟨by rfl, ?_⟩) ?_ ?_
  rotate_left
  ·
   intro w'
   go_simp; with_reducible rfl
  rotate_left
  ·
   simp only [Act.put, List.setIfInBounds_toArray, List.set_cons_zero, List.set_cons_succ, i64_w, i32_w]
   rfl
  refine take_ (i := 0) (N := some 25) (v := ?_) (a' := ?_) #[true, true, false, false, false, true, false, false, false, false] rfl rfl (take_ofW HT_.out HW_.out (by kernel_rfl)) (fun _ _ _ h => h) (Or.inl ⟨by rfl, ?_⟩) hHeld ?_ ?_
  rotate_left
  ·
   rintro w' ⟨s0, s1, s2, s3, s4, s5⟩
   go_simp; with_reducible rfl
  rotate_left
  ·
   simp only [Act.put, List.setIfInBounds_toArray, List.set_cons_zero, List.set_cons_succ, i64_w, i32_w]
   rfl
  refine take_ (i := 2) (N := some 27) (v := ?_) (a' := ?_) #[true, true, true, false, false, true, false, false, false, false] rfl rfl (take_ofW HT_.out HW_.out (by kernel_rfl)) (fun _ _ _ h => h) (Or.inl ⟨by rfl, ?_⟩) hHeld ?_ ?_
  rotate_left
  ·
   rintro w' ⟨s0, s1, s2, s3, s4, s5⟩
   go_simp; with_reducible rfl
  rotate_left
  ·
   simp only [Act.put, List.setIfInBounds_toArray, List.set_cons_zero, List.set_cons_succ, i64_w, i32_w]
   rfl
  refine take_ (i := 4) (N := some 29) (v := ?_) (a' := ?_) #[true, true, true, false, true, true, false, false, false, false] rfl rfl (take_ofW HT_.out HW_.out (by kernel_rfl)) (fun _ _ _ h => h) (Or.inl ⟨by rfl, ?_⟩) hHeld ?_ ?_
  rotate_left
  ·
   rintro w' ⟨s0, s1, s2, s3, s4, s5⟩
   go_simp; with_reducible rfl
  rotate_left
  ·
   simp only [Act.put, List.setIfInBounds_toArray, List.set_cons_zero, List.set_cons_succ, i64_w, i32_w]
   rfl
  refine take_ (i := 6) (N := some 31) (v := ?_) (a' := ?_) #[true, true, true, false, true, true, true, false, false, false] rfl rfl (take_ofW HT_.out HW_.out (by kernel_rfl)) (fun _ _ _ h => h) (Or.inl ⟨by rfl, ?_⟩) hHeld ?_ ?_
  rotate_left
  ·
   rintro w' ⟨s0, s1, s2, s3, s4, s5⟩
   go_simp; with_reducible rfl
  rotate_left
  ·
   simp only [Act.put, List.setIfInBounds_toArray, List.set_cons_zero, List.set_cons_succ, i64_w, i32_w]
   rfl
  refine one_ (i := 3) (N := some 28) #[true, true, true, true, true, true, true, false, false, false] rfl rfl (one_of HT_.out (by kernel_rfl)) (by decide) (fun K hK => ?_)
  refine goes_ Try.func33 (by kernel_rfl) rfl #[.agg #[.int .u64 a1_0, .int .u64 a1_1], .int .u64 a2_0] (by rfl) rfl rfl (by (try simp only [List.map_toArray, List.map_cons, List.map_nil]); first | done | rfl | (simp only [List.length_drop, List.length_take]; rfl)) ?_
  with_reducible refine (posternref15_Member.calls a1_0 a1_1 a2_0 t276 _ A6.out).mono ?_
  rintro e w21 ⟨rfl, hb⟩
  refine ⟨_, rfl, ?_⟩
  have n0_ := Aside0.mk (blk_below (g := gb271) (o := .cells #[.int .u64 a1_0, .int .u64 a1_1, .int .u64 a1_2, .int .u64 a1_3] 63 (0, 0)) (by (with_reducible repeat (first | apply bN | apply bD | apply bA)); exact BK271.out) hb)
  have n1_ := Aside0.mk (blk_below (g := gb272) (o := .cells #[.int .u64 a2_0, .int .u64 a2_1] 26 (0, 0)) (by (with_reducible repeat (first | apply bN | apply bD | apply bA)); exact BK272.out) hb)
  have n2_ := Aside0.mk (blk_below (g := gb274) (o := .cells #[.int .u64 a1_0, .int .u64 a1_1] 58 (0, 0)) (by (with_reducible repeat (first | apply bN | apply bD | apply bA)); exact BK274.out) hb)
  have n3_ := Aside0.mk (blk_below (g := gb275) (o := .cells #[.int .u64 a1_2, .int .u64 a1_3] 58 (0, 0)) (by (with_reducible repeat (first | apply bN | apply bD | apply bA)); exact BK275.out) hb)
  have n4_ := Aside0.mk (below_step (by repeat (first | (with_reducible first | exact HB.out | apply lA | apply lN | apply lD | refine lS ?_ ‹_›) | exact HB.out)) hb)
  clear BK271; clear BK272; clear BK274; clear BK275; clear HB; have BK271 := n0_; have BK272 := n1_; have BK274 := n2_; have BK275 := n3_; have HB := n4_; clear n0_ n1_ n2_ n3_ n4_
  (try clear hb)
  (try clear hb2)
  (try clear hk)
  (try clear hi)
  refine hK.out _ _ ⟨(blk_cell BK274.out 0).trans rfl, (blk_cell BK274.out 1).trans rfl, (blk_cell BK272.out 0).trans rfl, (blk_cell BK272.out 1).trans rfl, (blk_cell BK275.out 0).trans rfl, (blk_cell BK275.out 1).trans rfl⟩ (fun hHeld => ?_)
  clear hK K
  refine norm_ (a' := ?_) ?_ ?_
  rotate_left
  ·
   show Act.put _ (some 28) _ = _
   simp only [Act.put, List.setIfInBounds_toArray, List.set_cons_zero, List.set_cons_succ, i64_w, i32_w]
   rfl
  refine one_ (i := 7) (N := some 32) #[true, true, true, true, true, true, true, true, false, false] rfl rfl (one_of HT_.out (by kernel_rfl)) (by decide) (fun K hK => ?_)
  refine goes_ Try.func33 (by kernel_rfl) rfl #[.agg #[.int .u64 a1_2, .int .u64 a1_3], .int .u64 a2_1] (by rfl) rfl rfl (by (try simp only [List.map_toArray, List.map_cons, List.map_nil]); first | done | rfl | (simp only [List.length_drop, List.length_take]; rfl)) ?_
  with_reducible refine (posternref15_Member.calls a1_2 a1_3 a2_1 t277 _ A7.out).mono ?_
  rintro e w22 ⟨rfl, hb⟩
  refine ⟨_, rfl, ?_⟩
  have n0_ := Aside0.mk (blk_below (g := gb271) (o := .cells #[.int .u64 a1_0, .int .u64 a1_1, .int .u64 a1_2, .int .u64 a1_3] 63 (0, 0)) (by (with_reducible repeat (first | apply bN | apply bD | apply bA)); exact BK271.out) hb)
  have n1_ := Aside0.mk (blk_below (g := gb272) (o := .cells #[.int .u64 a2_0, .int .u64 a2_1] 26 (0, 0)) (by (with_reducible repeat (first | apply bN | apply bD | apply bA)); exact BK272.out) hb)
  have n2_ := Aside0.mk (blk_below (g := gb274) (o := .cells #[.int .u64 a1_0, .int .u64 a1_1] 58 (0, 0)) (by (with_reducible repeat (first | apply bN | apply bD | apply bA)); exact BK274.out) hb)
  have n3_ := Aside0.mk (blk_below (g := gb275) (o := .cells #[.int .u64 a1_2, .int .u64 a1_3] 58 (0, 0)) (by (with_reducible repeat (first | apply bN | apply bD | apply bA)); exact BK275.out) hb)
  have n4_ := Aside0.mk (below_step (by repeat (first | (with_reducible first | exact HB.out | apply lA | apply lN | apply lD | refine lS ?_ ‹_›) | exact HB.out)) hb)
  clear BK271; clear BK272; clear BK274; clear BK275; clear HB; have BK271 := n0_; have BK272 := n1_; have BK274 := n2_; have BK275 := n3_; have HB := n4_; clear n0_ n1_ n2_ n3_ n4_
  (try clear hb)
  (try clear hb2)
  (try clear hk)
  (try clear hi)
  refine hK.out _ _ ⟨(blk_cell BK274.out 0).trans rfl, (blk_cell BK274.out 1).trans rfl, (blk_cell BK272.out 0).trans rfl, (blk_cell BK272.out 1).trans rfl, (blk_cell BK275.out 0).trans rfl, (blk_cell BK275.out 1).trans rfl⟩ (fun hHeld => ?_)
  clear hK K
  refine norm_ (a' := ?_) ?_ ?_
  rotate_left
  ·
   show Act.put _ (some 32) _ = _
   simp only [Act.put, List.setIfInBounds_toArray, List.set_cons_zero, List.set_cons_succ, i64_w, i32_w]
   rfl
  refine pure_ (i := 8) (N := some 9) (v := ?_) (a' := ?_) #[true, true, true, true, true, true, true, true, true, false] rfl rfl (any_of HT_.out (by kernel_rfl)) (fun _ _ _ h => h) (Or.inl ⟨by rfl, ?_⟩) ?_ ?_
  rotate_left
  ·
   intro w'
   go_simp; with_reducible rfl
  rotate_left
  ·
   simp only [Act.put, List.setIfInBounds_toArray, List.set_cons_zero, List.set_cons_succ, i64_w, i32_w]
   rfl
  refine pure_ (i := 9) (N := some 10) (v := ?_) (a' := ?_) #[true, true, true, true, true, true, true, true, true, true] rfl rfl (any_of HT_.out (by kernel_rfl)) (fun _ _ _ h => h) (Or.inl ⟨by rfl, ?_⟩) ?_ ?_
  rotate_left
  ·
   intro w'
   go_simp; with_reducible rfl
  rotate_left
  ·
   simp only [Act.put, List.setIfInBounds_toArray, List.set_cons_zero, List.set_cons_succ, i64_w, i32_w]
   rfl
  refine done_ (done_of HT_.out (by kernel_rfl)) ?_
  try go_wp2
  go_loopg [9, 10, 35] k (fun kq v9 v10 v35 w' => ∃ (x9_1 : Int) (x10_1 : Int) (x35_1 : Int) (x275000_1 : Int) (x275001_1 : Int) (x276000_1 : Int) (x276001_1 : Int), v9 = .int .u64 x9_1 ∧ v10 = .int .u64 x10_1 ∧ v35 = .int .i64 x35_1 ∧ Aside0 (posternlaw15_SpanChains.l0 kq x9_1 x10_1 l0 (l0.length : Int) x35_1 x275000_1 x275001_1 x276000_1 x276001_1 = some r) ∧ Aside0 (kq ≤ k) ∧ Aside0 (w'.heap[gb271]? = some (.cells #[.int .u64 a1_0, .int .u64 a1_1, .int .u64 a1_2, .int .u64 a1_3] 63 (0, 0))) ∧ Aside0 (w'.heap[gb272]? = some (.cells #[.int .u64 a2_0, .int .u64 a2_1] 26 (0, 0))) ∧ Aside0 (w'.heap[gb274]? = some (.cells #[.int .u64 x275000_1, .int .u64 x275001_1] 58 (0, 0))) ∧ Aside0 (w'.heap[gb275]? = some (.cells #[.int .u64 x276000_1, .int .u64 x276001_1] 58 (0, 0))) ∧ Aside0 (Below w.heap.size w w'))
  case atStart => exact ⟨(t276), (t277), (0), (a1_0), (a1_1), (a1_2), (a1_3), (by first | rfl | (simp; done) | (simp [*]; done)), (by first | rfl | (simp; done) | (simp [*]; done)), (by first | rfl | (simp; done) | (simp [*]; done)), H', ⟨Nat.le_refl _⟩, ⟨by (with_reducible repeat (first | apply bN | apply bD | apply bA)); exact BK271.out⟩, ⟨by (with_reducible repeat (first | apply bN | apply bD | apply bA)); exact BK272.out⟩, ⟨by (with_reducible repeat (first | apply bN | apply bD | apply bA)); exact BK274.out⟩, ⟨by (with_reducible repeat (first | apply bN | apply bD | apply bA)); exact BK275.out⟩, ⟨by repeat (first | (with_reducible first | exact HB.out | apply lA | apply lN | apply lD | refine lS ?_ ‹_›) | exact HB.out)⟩⟩
  case round =>
   clear H'
   try clear c1
   try clear c2
   try clear p2
   try clear c3
   try clear c5
   try clear c12
   obtain ⟨x9_1, x10_1, x35_1, x275000_1, x275001_1, x276000_1, x276001_1, rfl, rfl, rfl, HA, HK1, BK271, BK272, BK274, BK275, HB⟩ := hrel
   cases gk with
   | zero => exact absurd HA.out (by simp [posternlaw15_SpanChains.l0])
   | succ k1 =>
    have H := HA.out
    clear HA
    simp only [posternlaw15_SpanChains.l0] at H
    by_cases c23 : x35_1 < (l0.length : Int)
    ·
     rw [if_pos c23] at H
     have c23b0 : decide (x35_1 < (l0.length : Int)) = true := decide_eq_true c23; clear c23
     by_cases c24 : 0 ≤ x35_1
     ·
      rw [if_pos c24] at H
      have c24b0 : decide (0 ≤ x35_1) = true := decide_eq_true c24; clear c24
      by_cases c25 : x35_1 < (l0.length : Int)
      ·
       rw [if_pos c25] at H
       have c25b0 : decide (x35_1 < (l0.length : Int)) = true := decide_eq_true c25; clear c25
       by_cases c26 : x35_1 ≥ 20
       ·
        rw [if_pos c26] at H
        have c26b0 : decide (20 ≤ x35_1) = true := decide_eq_true c26; clear c26; replace H := Option.bind_eq_some_iff.mp H; obtain ⟨t281, A270, H⟩ := H
        replace H : (if t281 = true then ((span_Has.f x276000_1 x276001_1 x10_1).bind fun t282 => (some t282)) else (some false)) = some r := H
        have A27 := Aside0.mk A270; clear A270
        by_cases c28 : t281 = true
        ·
         subst c28
         have H1 : ((span_Has.f x276000_1 x276001_1 x10_1).bind fun t282 => (some t282)) = some r := by rw [if_pos rfl] at H; exact H
         clear H; have H := H1; clear H1; replace H := Option.bind_eq_some_iff.mp H; obtain ⟨t282, A290, H⟩ := H
         replace H : (some t282) = some r := H
         have A29 := Aside0.mk A290; clear A290
         obtain rfl := Option.some.inj H
         have p280 : 0 ≤ (x35_1 : Int) := of_decide_eq_true (by first | (with_reducible assumption) | assumption)
         have q280 : x35_1 < (l0.length : Int) := of_decide_eq_true (by first | (with_reducible assumption) | assumption)
         obtain ⟨ad280, e280, hx280_0⟩ := Kd.at_int HR0.out x35_1 p280 q280
         cases e280
         replace hx280_0 := (HB.out.cell (World.block_lt_of_cell? w _ hx280_0)).trans hx280_0
         replace p280 := eq_true p280
         replace q280 := eq_true q280
         have hnb30 := NB274_271.out; have hnc30 := NB271_274.out; have hnb31 := NB274_272.out; have hnc31 := NB272_274.out; have hnb32 := NB274_275.out; have hnc32 := NB275_274.out; have hcz33_0 : wr.cell? ⟨gb274, 0, none⟩ = some (.int .u64 x275000_1) := (blk_cell BK274.out 0).trans rfl; have hcz33_1 : wr.cell? ⟨gb274, 1, none⟩ = some (.int .u64 x275001_1) := (blk_cell BK274.out 1).trans rfl; have hfz33_0 := blk_frozen BK274.out 0; have hfz33_1 := blk_frozen BK274.out 1
         go_wp2_with (first | ((with_reducible refine gate_callee (f := 39) rfl ?_); refine goesL_ (some 90) rfl rfl Try.func39 (by kernel_rfl) rfl #[.agg #[.int .u64 x275000_1, .int .u64 x275001_1], .int .u64 x9_1] rfl (by (try simp only [List.map_toArray, List.map_cons, List.map_nil]); first | done | rfl | (simp only [List.length_drop, List.length_take]; rfl)) ?_; (with_reducible refine (span_Has.calls x275000_1 x275001_1 x9_1 true _ A27.out).mono ?_); rintro e w34 ⟨rfl, hb⟩; refine ⟨_, rfl, ?_⟩; have n0_ := Aside0.mk (blk_below (g := gb271) (o := .cells #[.int .u64 a1_0, .int .u64 a1_1, .int .u64 a1_2, .int .u64 a1_3] 63 (0, 0)) (by (with_reducible repeat (first | apply bN | apply bD | apply bA)); exact BK271.out) hb); have n1_ := Aside0.mk (blk_below (g := gb272) (o := .cells #[.int .u64 a2_0, .int .u64 a2_1] 26 (0, 0)) (by (with_reducible repeat (first | apply bN | apply bD | apply bA)); exact BK272.out) hb); have n2_ := Aside0.mk (blk_below (g := gb274) (o := .cells #[.int .u64 x275000_1, .int .u64 x275001_1] 58 (0, 0)) (by (with_reducible repeat (first | apply bN | apply bD | apply bA)); exact BK274.out) hb); have n3_ := Aside0.mk (blk_below (g := gb275) (o := .cells #[.int .u64 x276000_1, .int .u64 x276001_1] 58 (0, 0)) (by (with_reducible repeat (first | apply bN | apply bD | apply bA)); exact BK275.out) hb); have n4_ := Aside0.mk (below_step (by repeat (first | (with_reducible first | exact HB.out | apply lA | apply lN | apply lD | refine lS ?_ ‹_›) | exact HB.out)) hb); clear BK271; clear BK272; clear BK274; clear BK275; clear HB; have BK271 := n0_; have BK272 := n1_; have BK274 := n2_; have BK275 := n3_; have HB := n4_; clear n0_ n1_ n2_ n3_ n4_; (try clear hb); (try clear hb2); (try clear hk); (try clear hi); have hnb35 := NB275_271.out; have hnc35 := NB271_275.out; have hnb36 := NB275_272.out; have hnc36 := NB272_275.out; have hcz37_0 : w34.cell? ⟨gb275, 0, none⟩ = some (.int .u64 x276000_1) := (blk_cell BK275.out 0).trans rfl; have hcz37_1 : w34.cell? ⟨gb275, 1, none⟩ = some (.int .u64 x276001_1) := (blk_cell BK275.out 1).trans rfl; have hfz37_0 := blk_frozen BK275.out 0; have hfz37_1 := blk_frozen BK275.out 1) | (go_at_call 39; (with_reducible refine (span_Has.calls x276000_1 x276001_1 x10_1 t282 _ A29.out).mono ?_); rintro e w38 ⟨rfl, hb⟩; have n0_ := Aside0.mk (blk_below (g := gb271) (o := .cells #[.int .u64 a1_0, .int .u64 a1_1, .int .u64 a1_2, .int .u64 a1_3] 63 (0, 0)) (by (with_reducible repeat (first | apply bN | apply bD | apply bA)); exact BK271.out) hb); have n1_ := Aside0.mk (blk_below (g := gb272) (o := .cells #[.int .u64 a2_0, .int .u64 a2_1] 26 (0, 0)) (by (with_reducible repeat (first | apply bN | apply bD | apply bA)); exact BK272.out) hb); have n2_ := Aside0.mk (blk_below (g := gb274) (o := .cells #[.int .u64 x275000_1, .int .u64 x275001_1] 58 (0, 0)) (by (with_reducible repeat (first | apply bN | apply bD | apply bA)); exact BK274.out) hb); have n3_ := Aside0.mk (blk_below (g := gb275) (o := .cells #[.int .u64 x276000_1, .int .u64 x276001_1] 58 (0, 0)) (by (with_reducible repeat (first | apply bN | apply bD | apply bA)); exact BK275.out) hb); have n4_ := Aside0.mk (below_step (by repeat (first | (with_reducible first | exact HB.out | apply lA | apply lN | apply lD | refine lS ?_ ‹_›) | exact HB.out)) hb); clear BK271; clear BK272; clear BK274; clear BK275; clear HB; have BK271 := n0_; have BK272 := n1_; have BK274 := n2_; have BK275 := n3_; have HB := n4_; clear n0_ n1_ n2_ n3_ n4_; (try clear hb); (try clear hb2); (try clear hk); (try clear hi)))
         go_ret
         exact ⟨by first | rfl | (simp [errW_none, errW_some] <;> rfl) | (simp [*, errW_none, errW_some] <;> rfl), by repeat (first | (with_reducible first | exact HB.out | apply lA | apply lN | apply lD | refine lS ?_ ‹_›) | exact HB.out)⟩
        ·
         replace c28 := Bool.eq_false_iff.mpr c28
         subst c28
         have H1 : (some false) = some r := by rw [if_neg (show ¬ (false = true) by decide)] at H; exact H
         clear H; have H := H1; clear H1
         exact absurd (H.trans (congrArg some hr_.out)) (by simp)
       ·
        rw [if_neg c26] at H
        have c26b0 : decide (20 ≤ x35_1) = false := decide_eq_false c26; clear c26; replace H := Option.bind_eq_some_iff.mp H; obtain ⟨⟨t283, t284, t285⟩, A390, H⟩ := H
        replace H : ((posternlaw15_size.f ((Int.tmod (IntKind.u64.wrap (Int.tdiv (IntKind.u64.wrap (rd l0 x35_1)) 13)) 2) == 0)).bind fun t287 => ((posternref05_Do.f k1 (wrap64 ((wrap64 (Int.tmod (IntKind.u64.wrap (rd l0 x35_1)) 13)) * 16)) t287 x9_1 x10_1).bind fun bt288 => (if t285 = 0 then (if bt288.1 < t283 then (some false) else (if bt288.1 > t284 then (some false) else (posternlaw15_SpanChains.l0 k1 x10_1 bt288.1 l0 (l0.length : Int) (wrap64 (x35_1 + 1)) x276000_1 x276001_1 t283 t284))) else (some false)))) = some r := H
        have A39 := Aside0.mk A390; clear A390; replace H := Option.bind_eq_some_iff.mp H; obtain ⟨t287, A400, H⟩ := H
        replace H : ((posternref05_Do.f k1 (wrap64 ((wrap64 (Int.tmod (IntKind.u64.wrap (rd l0 x35_1)) 13)) * 16)) t287 x9_1 x10_1).bind fun bt288 => (if t285 = 0 then (if bt288.1 < t283 then (some false) else (if bt288.1 > t284 then (some false) else (posternlaw15_SpanChains.l0 k1 x10_1 bt288.1 l0 (l0.length : Int) (wrap64 (x35_1 + 1)) x276000_1 x276001_1 t283 t284))) else (some false))) = some r := H
        have A40 := Aside0.mk A400; clear A400; replace H := Option.bind_eq_some_iff.mp H; obtain ⟨⟨t288, t289⟩, A410, H⟩ := H
        replace H : (if t285 = 0 then (if t288 < t283 then (some false) else (if t288 > t284 then (some false) else (posternlaw15_SpanChains.l0 k1 x10_1 t288 l0 (l0.length : Int) (wrap64 (x35_1 + 1)) x276000_1 x276001_1 t283 t284))) else (some false)) = some r := H
        have A41 := Aside0.mk A410; clear A410
        by_cases c42 : t285 = 0
        ·
         rw [if_pos c42] at H
         have c42b0 : (t285 == 0) = true := beq_iff_eq.mpr c42; have c42b1 : (t285 != 0) = false := bne_eq_false_iff_eq.mpr c42; clear c42
         by_cases c43 : t288 < t283
         ·
          rw [if_pos c43] at H
          have c43b0 : decide (t288 < t283) = true := decide_eq_true c43; clear c43
          exact absurd (H.trans (congrArg some hr_.out)) (by simp)
         ·
          rw [if_neg c43] at H
          have c43b0 : decide (t288 < t283) = false := decide_eq_false c43; clear c43
          by_cases c44 : t288 > t284
          ·
           rw [if_pos c44] at H
           have c44b0 : decide (t284 < t288) = true := decide_eq_true c44; clear c44
           exact absurd (H.trans (congrArg some hr_.out)) (by simp)
          ·
           rw [if_neg c44] at H
           have c44b0 : decide (t284 < t288) = false := decide_eq_false c44; clear c44
           have H' := Aside0.mk H
           clear H
           have p280 : 0 ≤ (x35_1 : Int) := of_decide_eq_true (by first | (with_reducible assumption) | assumption)
           have q280 : x35_1 < (l0.length : Int) := of_decide_eq_true (by first | (with_reducible assumption) | assumption)
           obtain ⟨ad280, e280, hx280_0⟩ := Kd.at_int HR0.out x35_1 p280 q280
           cases e280
           replace hx280_0 := (HB.out.cell (World.block_lt_of_cell? w _ hx280_0)).trans hx280_0
           replace p280 := eq_true p280
           replace q280 := eq_true q280
           have hnb45 := NB274_271.out; have hnc45 := NB271_274.out; have hnb46 := NB274_272.out; have hnc46 := NB272_274.out; have hnb47 := NB274_275.out; have hnc47 := NB275_274.out; have hcz48_0 : wr.cell? ⟨gb274, 0, none⟩ = some (.int .u64 x275000_1) := (blk_cell BK274.out 0).trans rfl; have hcz48_1 : wr.cell? ⟨gb274, 1, none⟩ = some (.int .u64 x275001_1) := (blk_cell BK274.out 1).trans rfl; have hfz48_0 := blk_frozen BK274.out 0; have hfz48_1 := blk_frozen BK274.out 1; have hnb49 := NB275_271.out; have hnc49 := NB271_275.out; have hnb50 := NB275_272.out; have hnc50 := NB272_275.out; have hcz51_0 : wr.cell? ⟨gb275, 0, none⟩ = some (.int .u64 x276000_1) := (blk_cell BK275.out 0).trans rfl; have hcz51_1 : wr.cell? ⟨gb275, 1, none⟩ = some (.int .u64 x276001_1) := (blk_cell BK275.out 1).trans rfl; have hfz51_0 := blk_frozen BK275.out 0; have hfz51_1 := blk_frozen BK275.out 1
           try go_wp2_with (first | ((with_reducible refine gate_callee (f := 32) rfl ?_); refine goesL_ (some 57) rfl rfl Try.func32 (by kernel_rfl) rfl #[.int .i64 (wrap64 ((wrap64 (Int.tmod (IntKind.u64.wrap (rd l0 x35_1)) 13)) * 16)), .bool ((Int.tmod (IntKind.u64.wrap (Int.tdiv (IntKind.u64.wrap (rd l0 x35_1)) 13)) 2) == 0), .agg #[.int .u64 x275000_1, .int .u64 x275001_1], .agg #[.int .u64 x276000_1, .int .u64 x276001_1]] rfl (by (try simp only [List.map_toArray, List.map_cons, List.map_nil]); first | done | rfl | (simp only [List.length_drop, List.length_take]; rfl)) ?_; (with_reducible refine (span_Do.calls k1 (wrap64 ((wrap64 (Int.tmod (IntKind.u64.wrap (rd l0 x35_1)) 13)) * 16)) ((Int.tmod (IntKind.u64.wrap (Int.tdiv (IntKind.u64.wrap (rd l0 x35_1)) 13)) 2) == 0) x275000_1 x275001_1 x276000_1 x276001_1 t283 t284 t285 _ A39.out).mono ?_); rintro e w52 ⟨rfl, hb⟩; refine ⟨_, rfl, ?_⟩; have n0_ := Aside0.mk (blk_below (g := gb271) (o := .cells #[.int .u64 a1_0, .int .u64 a1_1, .int .u64 a1_2, .int .u64 a1_3] 63 (0, 0)) (by (with_reducible repeat (first | apply bN | apply bD | apply bA)); exact BK271.out) hb); have n1_ := Aside0.mk (blk_below (g := gb272) (o := .cells #[.int .u64 a2_0, .int .u64 a2_1] 26 (0, 0)) (by (with_reducible repeat (first | apply bN | apply bD | apply bA)); exact BK272.out) hb); have n2_ := Aside0.mk (blk_below (g := gb274) (o := .cells #[.int .u64 x275000_1, .int .u64 x275001_1] 58 (0, 0)) (by (with_reducible repeat (first | apply bN | apply bD | apply bA)); exact BK274.out) hb); have n3_ := Aside0.mk (blk_below (g := gb275) (o := .cells #[.int .u64 x276000_1, .int .u64 x276001_1] 58 (0, 0)) (by (with_reducible repeat (first | apply bN | apply bD | apply bA)); exact BK275.out) hb); have n4_ := Aside0.mk (below_step (by repeat (first | (with_reducible first | exact HB.out | apply lA | apply lN | apply lD | refine lS ?_ ‹_›) | exact HB.out)) hb); clear BK271; clear BK272; clear BK274; clear BK275; clear HB; have BK271 := n0_; have BK272 := n1_; have BK274 := n2_; have BK275 := n3_; have HB := n4_; clear n0_ n1_ n2_ n3_ n4_; (try clear hb); (try clear hb2); (try clear hk); (try clear hi)) | ((with_reducible refine gate_dst (N := 15) rfl ?_); refine box_event ?hg (N := 15) ?hd (cs := #[.int .u64 0, .int .u64 0]) (t := 58) ?hr ?_; (case hd => rfl); (case hg => rfl); (case hr => first | (go_simp; done) | (go_simp; rfl)); intro gb286 hg w53 hbox hb; have n0_ := Aside0.mk (blk_below (g := gb271) (o := .cells #[.int .u64 a1_0, .int .u64 a1_1, .int .u64 a1_2, .int .u64 a1_3] 63 (0, 0)) (by (with_reducible repeat (first | apply bN | apply bD | apply bA)); exact BK271.out) hb); have n1_ := Aside0.mk (blk_below (g := gb272) (o := .cells #[.int .u64 a2_0, .int .u64 a2_1] 26 (0, 0)) (by (with_reducible repeat (first | apply bN | apply bD | apply bA)); exact BK272.out) hb); have n2_ := Aside0.mk (blk_below (g := gb274) (o := .cells #[.int .u64 x275000_1, .int .u64 x275001_1] 58 (0, 0)) (by (with_reducible repeat (first | apply bN | apply bD | apply bA)); exact BK274.out) hb); have n3_ := Aside0.mk (blk_below (g := gb275) (o := .cells #[.int .u64 x276000_1, .int .u64 x276001_1] 58 (0, 0)) (by (with_reducible repeat (first | apply bN | apply bD | apply bA)); exact BK275.out) hb); have n4_ := Aside0.mk (below_step (by repeat (first | (with_reducible first | exact HB.out | apply lA | apply lN | apply lD | refine lS ?_ ‹_›) | exact HB.out)) hb); have n5_ := Aside0.mk (hbox); have n6_ := Aside0.mk ((by rw [hg]; exact (below_size (by repeat (first | (with_reducible first | exact HB.out | apply lA | apply lN | apply lD | refine lS ?_ ‹_›) | exact HB.out))) : w.heap.size ≤ gb286)); have n7_ := n6_; have n8_ := Aside0.mk ((by rw [hg]; exact Nat.ne_of_lt (blk_lt (g := gb271) (o := .cells #[.int .u64 a1_0, .int .u64 a1_1, .int .u64 a1_2, .int .u64 a1_3] 63 (0, 0)) (by (with_reducible repeat (first | apply bN | apply bD | apply bA)); exact BK271.out)) : gb271 ≠ gb286)); have n9_ := sy n8_; have n10_ := Aside0.mk ((by rw [hg]; exact Nat.ne_of_lt (blk_lt (g := gb272) (o := .cells #[.int .u64 a2_0, .int .u64 a2_1] 26 (0, 0)) (by (with_reducible repeat (first | apply bN | apply bD | apply bA)); exact BK272.out)) : gb272 ≠ gb286)); have n11_ := sy n10_; have n12_ := Aside0.mk ((by rw [hg]; exact Nat.ne_of_lt (blk_lt (g := gb274) (o := .cells #[.int .u64 x275000_1, .int .u64 x275001_1] 58 (0, 0)) (by (with_reducible repeat (first | apply bN | apply bD | apply bA)); exact BK274.out)) : gb274 ≠ gb286)); have n13_ := sy n12_; have n14_ := Aside0.mk ((by rw [hg]; exact Nat.ne_of_lt (blk_lt (g := gb275) (o := .cells #[.int .u64 x276000_1, .int .u64 x276001_1] 58 (0, 0)) (by (with_reducible repeat (first | apply bN | apply bD | apply bA)); exact BK275.out)) : gb275 ≠ gb286)); have n15_ := sy n14_; clear BK271; clear BK272; clear BK274; clear BK275; clear HB; have BK271 := n0_; have BK272 := n1_; have BK274 := n2_; have BK275 := n3_; have HB := n4_; have BK286 := n5_; have GW286 := n6_; have GE286 := n7_; have NB271_286 := n8_; have NB286_271 := n9_; have NB272_286 := n10_; have NB286_272 := n11_; have NB274_286 := n12_; have NB286_274 := n13_; have NB275_286 := n14_; have NB286_275 := n15_; clear n0_ n1_ n2_ n3_ n4_ n5_ n6_ n7_ n8_ n9_ n10_ n11_ n12_ n13_ n14_ n15_; clear hb hbox hg; have hnb54 := NB286_271.out; have hnc54 := NB271_286.out; have hnb55 := NB286_272.out; have hnc55 := NB272_286.out; have hnb56 := NB286_274.out; have hnc56 := NB274_286.out; have hnb57 := NB286_275.out; have hnc57 := NB275_286.out; have hcz58_0 : w53.cell? ⟨gb286, 0, none⟩ = some (.int .u64 0) := (blk_cell BK286.out 0).trans rfl; have hcz58_1 : w53.cell? ⟨gb286, 1, none⟩ = some (.int .u64 0) := (blk_cell BK286.out 1).trans rfl; have hfz58_0 := blk_frozen BK286.out 0; have hfz58_1 := blk_frozen BK286.out 1) | ((with_reducible refine gate_callee (f := 35) rfl ?_); refine goesL_ (some 63) rfl rfl Try.func35 (by kernel_rfl) rfl #[.bool ((Int.tmod (IntKind.u64.wrap (Int.tdiv (IntKind.u64.wrap (rd l0 x35_1)) 13)) 2) == 0)] rfl (by (try simp only [List.map_toArray, List.map_cons, List.map_nil]); first | done | rfl | (simp only [List.length_drop, List.length_take]; rfl)) ?_; (with_reducible refine (posternlaw15_size.calls ((Int.tmod (IntKind.u64.wrap (Int.tdiv (IntKind.u64.wrap (rd l0 x35_1)) 13)) 2) == 0) t287 _ A40.out).mono ?_); rintro e w' ⟨rfl, ⟨nd, rfl⟩⟩; refine ⟨_, rfl, ?_⟩) | ((with_reducible refine gate_callee (f := 15) rfl ?_); refine goesL_ (some 66) rfl rfl Try.func15 (by kernel_rfl) rfl #[.int .i64 (wrap64 ((wrap64 (Int.tmod (IntKind.u64.wrap (rd l0 x35_1)) 13)) * 16)), .int .i64 t287, .int .u64 x9_1, .int .u64 x10_1] rfl (by (try simp only [List.map_toArray, List.map_cons, List.map_nil]); first | done | rfl | (simp only [List.length_drop, List.length_take]; rfl)) ?_; (with_reducible refine (posternref05_Do.calls k1 (wrap64 ((wrap64 (Int.tmod (IntKind.u64.wrap (rd l0 x35_1)) 13)) * 16)) t287 x9_1 x10_1 t288 t289 _ A41.out).mono ?_); rintro e w' ⟨rfl, ⟨nd, rfl⟩⟩; refine ⟨_, rfl, ?_⟩))
           have n0_ : Aside0 (((w53.setCell ⟨gb286, 0, none⟩ (.int .u64 t283)).setCell ⟨gb286, 1, none⟩ (.int .u64 t284)).heap[gb271]? = some (.cells #[.int .u64 a1_0, .int .u64 a1_1, .int .u64 a1_2, .int .u64 a1_3] 63 (0, 0))) := ⟨by (with_reducible repeat (first | apply bN | apply bD | apply bA)); refine blk_far ?_ NB271_286.out _; (with_reducible repeat (first | apply bN | apply bD | apply bA)); refine blk_far ?_ NB271_286.out _; (with_reducible repeat (first | apply bN | apply bD | apply bA)); exact BK271.out⟩
           have n1_ : Aside0 (((w53.setCell ⟨gb286, 0, none⟩ (.int .u64 t283)).setCell ⟨gb286, 1, none⟩ (.int .u64 t284)).heap[gb272]? = some (.cells #[.int .u64 a2_0, .int .u64 a2_1] 26 (0, 0))) := ⟨by (with_reducible repeat (first | apply bN | apply bD | apply bA)); refine blk_far ?_ NB272_286.out _; (with_reducible repeat (first | apply bN | apply bD | apply bA)); refine blk_far ?_ NB272_286.out _; (with_reducible repeat (first | apply bN | apply bD | apply bA)); exact BK272.out⟩
           have n2_ : Aside0 (((w53.setCell ⟨gb286, 0, none⟩ (.int .u64 t283)).setCell ⟨gb286, 1, none⟩ (.int .u64 t284)).heap[gb274]? = some (.cells #[.int .u64 x275000_1, .int .u64 x275001_1] 58 (0, 0))) := ⟨by (with_reducible repeat (first | apply bN | apply bD | apply bA)); refine blk_far ?_ NB274_286.out _; (with_reducible repeat (first | apply bN | apply bD | apply bA)); refine blk_far ?_ NB274_286.out _; (with_reducible repeat (first | apply bN | apply bD | apply bA)); exact BK274.out⟩
           have n3_ : Aside0 (((w53.setCell ⟨gb286, 0, none⟩ (.int .u64 t283)).setCell ⟨gb286, 1, none⟩ (.int .u64 t284)).heap[gb275]? = some (.cells #[.int .u64 x276000_1, .int .u64 x276001_1] 58 (0, 0))) := ⟨by (with_reducible repeat (first | apply bN | apply bD | apply bA)); refine blk_far ?_ NB275_286.out _; (with_reducible repeat (first | apply bN | apply bD | apply bA)); refine blk_far ?_ NB275_286.out _; (with_reducible repeat (first | apply bN | apply bD | apply bA)); exact BK275.out⟩
           have n4_ : Aside0 (((w53.setCell ⟨gb286, 0, none⟩ (.int .u64 t283)).setCell ⟨gb286, 1, none⟩ (.int .u64 t284)).heap[gb286]? = some (.cells #[.int .u64 t283, .int .u64 t284] 58 (0, 0))) := ⟨by (with_reducible repeat (first | apply bN | apply bD | apply bA)); refine blk_put (cs := #[.int .u64 t283, .int .u64 0]) ?_ 1 _ rfl; (with_reducible repeat (first | apply bN | apply bD | apply bA)); refine blk_put (cs := #[.int .u64 0, .int .u64 0]) ?_ 0 _ rfl; (with_reducible repeat (first | apply bN | apply bD | apply bA)); exact BK286.out⟩
           have n5_ : Aside0 (Below w.heap.size w ((w53.setCell ⟨gb286, 0, none⟩ (.int .u64 t283)).setCell ⟨gb286, 1, none⟩ (.int .u64 t284))) := ⟨by repeat (first | (with_reducible first | exact HB.out | apply lA | apply lN | apply lD | refine lS ?_ ‹_›) | exact HB.out)⟩
           (try clear BK271)
           (try clear BK272)
           (try clear BK274)
           (try clear BK275)
           (try clear BK286)
           (try clear HB)
           generalize ((w53.setCell ⟨gb286, 0, none⟩ (.int .u64 t283)).setCell ⟨gb286, 1, none⟩ (.int .u64 t284)) = w59 at n0_ n1_ n2_ n3_ n4_ n5_ ⊢
           have BK271 := n0_; have BK272 := n1_; have BK274 := n2_; have BK275 := n3_; have BK286 := n4_; have HB := n5_; clear n0_ n1_ n2_ n3_ n4_ n5_
           (try (rw [drewN_self w59]; generalize hq_ : World.drewN w59 _ = w59; have n0_ : Aside0 (w59.heap[gb271]? = some (.cells #[.int .u64 a1_0, .int .u64 a1_1, .int .u64 a1_2, .int .u64 a1_3] 63 (0, 0))) := ⟨by rw [← hq_]; exact (by (with_reducible repeat (first | apply bN | apply bD | apply bA)); exact BK271.out)⟩; have n1_ : Aside0 (w59.heap[gb272]? = some (.cells #[.int .u64 a2_0, .int .u64 a2_1] 26 (0, 0))) := ⟨by rw [← hq_]; exact (by (with_reducible repeat (first | apply bN | apply bD | apply bA)); exact BK272.out)⟩; have n2_ : Aside0 (w59.heap[gb274]? = some (.cells #[.int .u64 x275000_1, .int .u64 x275001_1] 58 (0, 0))) := ⟨by rw [← hq_]; exact (by (with_reducible repeat (first | apply bN | apply bD | apply bA)); exact BK274.out)⟩; have n3_ : Aside0 (w59.heap[gb275]? = some (.cells #[.int .u64 x276000_1, .int .u64 x276001_1] 58 (0, 0))) := ⟨by rw [← hq_]; exact (by (with_reducible repeat (first | apply bN | apply bD | apply bA)); exact BK275.out)⟩; have n4_ : Aside0 (w59.heap[gb286]? = some (.cells #[.int .u64 t283, .int .u64 t284] 58 (0, 0))) := ⟨by rw [← hq_]; exact (by (with_reducible repeat (first | apply bN | apply bD | apply bA)); exact BK286.out)⟩; have n5_ : Aside0 (Below w.heap.size w w59) := ⟨by rw [← hq_]; exact (by repeat (first | (with_reducible first | exact HB.out | apply lA | apply lN | apply lD | refine lS ?_ ‹_›) | exact HB.out))⟩; clear BK271 BK272 BK274 BK275 BK286 HB hq_; have BK271 := n0_; have BK272 := n1_; have BK274 := n2_; have BK275 := n3_; have BK286 := n4_; have HB := n5_; clear n0_ n1_ n2_ n3_ n4_ n5_))
           have n0_ := Aside0.mk (blk_drew BK271.out); have n1_ := Aside0.mk (blk_drew BK272.out); have n2_ := Aside0.mk (blk_drew BK274.out); have n3_ := Aside0.mk (blk_drew BK275.out); have n4_ := Aside0.mk (blk_drew BK286.out)
           have n5_ := Aside0.mk (below_drew1 HB.out)
           clear BK271; clear BK272; clear BK274; clear BK275; clear BK286; clear HB; have BK271 := n0_; have BK272 := n1_; have BK274 := n2_; have BK275 := n3_; have BK286 := n4_; have HB := n5_; clear n0_ n1_ n2_ n3_ n4_ n5_
           refine start_ (n := 4) (S := fun w' => w'.cell? ⟨gb275, 0, none⟩ = some (.int .u64 x276000_1) ∧ w'.cell? ⟨gb275, 1, none⟩ = some (.int .u64 x276001_1) ∧ w'.cell? ⟨gb286, 0, none⟩ = some (.int .u64 t283) ∧ w'.cell? ⟨gb286, 1, none⟩ = some (.int .u64 t284)) (ds := [3]) #[false, false, false, false] (by kernel_rfl) rfl rfl ⟨(blk_cell BK275.out 0).trans rfl, (blk_cell BK275.out 1).trans rfl, (blk_cell BK286.out 0).trans rfl, (blk_cell BK286.out 1).trans rfl⟩ (fun hHeld => ?_)
           generalize w59.drew = w60 at BK271 BK272 BK274 BK275 BK286 HB hHeld ⊢
           refine take_ (i := 0) (N := some 83) (v := ?_) (a' := ?_) #[true, false, false, false] rfl rfl (by kernel_rfl) (fun _ _ _ h => h) (Or.inl ⟨by rfl, ?_⟩) hHeld ?_ ?_
           rotate_left
           ·
            rintro w' ⟨s0, s1, s2, s3⟩
            go_simp; with_reducible rfl
           rotate_left
           ·
            simp only [Act.put, List.setIfInBounds_toArray, List.set_cons_zero, List.set_cons_succ, i64_w, i32_w]
            rfl
           refine take_ (i := 1) (N := some 84) (v := ?_) (a' := ?_) #[true, true, false, false] rfl rfl (by kernel_rfl) (fun _ _ _ h => h) (Or.inl ⟨by rfl, ?_⟩) hHeld ?_ ?_
           rotate_left
           ·
            rintro w' ⟨s0, s1, s2, s3⟩
            go_simp; with_reducible rfl
           rotate_left
           ·
            simp only [Act.put, List.setIfInBounds_toArray, List.set_cons_zero, List.set_cons_succ, i64_w, i32_w]
            rfl
           refine one_ (i := 2) (N := none) #[true, true, true, false] rfl rfl (by kernel_rfl) (by decide) (fun K hK => ?_)
           have hs61 : w60.cell? ⟨gb274, 0, none⟩ = some (.int .u64 x275000_1) := (blk_cell BK274.out 0).trans rfl
           have hfs61 := blk_frozen BK274.out 0
           have hns61_0 := NB271_274.out
           have hns61_1 := NB272_274.out
           have hns61_3 := NB275_274.out
           have hns61_4 := NB286_274.out
           have hms61_0 := NB274_271.out
           have hms61_1 := NB274_272.out
           have hms61_3 := NB274_275.out
           have hms61_4 := NB274_286.out
           have hs62 : w60.cell? ⟨gb274, 1, none⟩ = some (.int .u64 x275001_1) := (blk_cell BK274.out 1).trans rfl
           have hfs62 := blk_frozen BK274.out 1
           have hns62_0 := NB271_274.out
           have hns62_1 := NB272_274.out
           have hns62_3 := NB275_274.out
           have hns62_4 := NB286_274.out
           have hms62_0 := NB274_271.out
           have hms62_1 := NB274_272.out
           have hms62_3 := NB274_275.out
           have hms62_4 := NB274_286.out
           refine skip_ (w1 := ?_) (by rfl) rfl ?_ ?_
           rotate_left
           ·
            go_simp
            rfl
           refine hK.out _ _ ⟨((cell_far (p := ⟨gb274, _, none⟩) NB275_274.out _).trans (((cell_far (p := ⟨gb274, _, none⟩) NB275_274.out _).trans (hHeld.1)))), ((cell_far (p := ⟨gb274, _, none⟩) NB275_274.out _).trans (((cell_far (p := ⟨gb274, _, none⟩) NB275_274.out _).trans (hHeld.2.1)))), ((cell_far (p := ⟨gb274, _, none⟩) NB286_274.out _).trans (((cell_far (p := ⟨gb274, _, none⟩) NB286_274.out _).trans (hHeld.2.2.1)))), ((cell_far (p := ⟨gb274, _, none⟩) NB286_274.out _).trans (((cell_far (p := ⟨gb274, _, none⟩) NB286_274.out _).trans (hHeld.2.2.2))))⟩ (fun hHeld => ?_)
           clear hK K
           refine last_ (i := 3) (N := none) #[true, true, true, true] rfl rfl (by kernel_rfl) (by decide) (fun K hK => ?_)
           have hs63 : w60.cell? ⟨gb275, 0, none⟩ = some (.int .u64 x276000_1) := (blk_cell BK275.out 0).trans rfl
           have hfs63 := blk_frozen BK275.out 0
           have hns63_0 := NB271_275.out
           have hns63_1 := NB272_275.out
           have hns63_2 := NB274_275.out
           have hns63_4 := NB286_275.out
           have hms63_0 := NB275_271.out
           have hms63_1 := NB275_272.out
           have hms63_2 := NB275_274.out
           have hms63_4 := NB275_286.out
           have hs64 : w60.cell? ⟨gb275, 1, none⟩ = some (.int .u64 x276001_1) := (blk_cell BK275.out 1).trans rfl
           have hfs64 := blk_frozen BK275.out 1
           have hns64_0 := NB271_275.out
           have hns64_1 := NB272_275.out
           have hns64_2 := NB274_275.out
           have hns64_4 := NB286_275.out
           have hms64_0 := NB275_271.out
           have hms64_1 := NB275_272.out
           have hms64_2 := NB275_274.out
           have hms64_4 := NB275_286.out
           refine skip_ (w1 := ?_) (by rfl) rfl ?_ ?_
           rotate_left
           ·
            go_simp
            rfl
           refine hK.out _ _ ?_
           clear hK K
           refine done_ (by kernel_rfl) ?_
           try go_wp2
           go_roundg k1
           case measure => have := HK1.out; omega
           case rel => exact ⟨(x10_1), (t288), (wrap64 (x35_1 + 1)), (x276000_1), (x276001_1), (t283), (t284), (by first | rfl | (simp; done) | (simp [*]; done)), (by first | rfl | (simp; done) | (simp [*]; done)), (by first | rfl | (simp; done) | (simp [*]; done)), H', ⟨by have := HK1.out; omega⟩, ⟨by (with_reducible repeat (first | apply bN | apply bD | apply bA)); refine blk_far ?_ NB271_275.out _; (with_reducible repeat (first | apply bN | apply bD | apply bA)); refine blk_far ?_ NB271_275.out _; (with_reducible repeat (first | apply bN | apply bD | apply bA)); refine blk_far ?_ NB271_274.out _; (with_reducible repeat (first | apply bN | apply bD | apply bA)); refine blk_far ?_ NB271_274.out _; (with_reducible repeat (first | apply bN | apply bD | apply bA)); exact BK271.out⟩, ⟨by (with_reducible repeat (first | apply bN | apply bD | apply bA)); refine blk_far ?_ NB272_275.out _; (with_reducible repeat (first | apply bN | apply bD | apply bA)); refine blk_far ?_ NB272_275.out _; (with_reducible repeat (first | apply bN | apply bD | apply bA)); refine blk_far ?_ NB272_274.out _; (with_reducible repeat (first | apply bN | apply bD | apply bA)); refine blk_far ?_ NB272_274.out _; (with_reducible repeat (first | apply bN | apply bD | apply bA)); exact BK272.out⟩, ⟨by (with_reducible repeat (first | apply bN | apply bD | apply bA)); refine blk_far ?_ NB274_275.out _; (with_reducible repeat (first | apply bN | apply bD | apply bA)); refine blk_far ?_ NB274_275.out _; (with_reducible repeat (first | apply bN | apply bD | apply bA)); refine blk_put (cs := #[.int .u64 x276000_1, .int .u64 x275001_1]) ?_ 1 _ rfl; (with_reducible repeat (first | apply bN | apply bD | apply bA)); refine blk_put (cs := #[.int .u64 x275000_1, .int .u64 x275001_1]) ?_ 0 _ rfl; (with_reducible repeat (first | apply bN | apply bD | apply bA)); exact BK274.out⟩, ⟨by (with_reducible repeat (first | apply bN | apply bD | apply bA)); refine blk_put (cs := #[.int .u64 t283, .int .u64 x276001_1]) ?_ 1 _ rfl; (with_reducible repeat (first | apply bN | apply bD | apply bA)); refine blk_put (cs := #[.int .u64 x276000_1, .int .u64 x276001_1]) ?_ 0 _ rfl; (with_reducible repeat (first | apply bN | apply bD | apply bA)); refine blk_far ?_ NB275_274.out _; (with_reducible repeat (first | apply bN | apply bD | apply bA)); refine blk_far ?_ NB275_274.out _; (with_reducible repeat (first | apply bN | apply bD | apply bA)); exact BK275.out⟩, ⟨by repeat (first | (with_reducible first | exact HB.out | apply lA | apply lN | apply lD | refine lS ?_ ‹_›) | exact HB.out)⟩⟩
        ·
         rw [if_neg c42] at H
         have c42b0 : (t285 == 0) = false := beq_eq_false_iff_ne.mpr c42; have c42b1 : (t285 != 0) = true := bne_iff_ne.mpr c42
         exact absurd (H.trans (congrArg some hr_.out)) (by simp)
      ·
       rw [if_neg c25] at H
       exact absurd H (by simp)
     ·
      rw [if_neg c24] at H
      exact absurd H (by simp)
    ·
     rw [if_neg c23] at H
     have c23b0 : decide (x35_1 < (l0.length : Int)) = false := decide_eq_false c23; clear c23; replace H := Option.bind_eq_some_iff.mp H; obtain ⟨t278, A650, H⟩ := H
     replace H : (if t278 = true then ((span_Has.f x276000_1 x276001_1 x10_1).bind fun t279 => (some t279)) else (some false)) = some r := H
     have A65 := Aside0.mk A650; clear A650
     by_cases c66 : t278 = true
     ·
      subst c66
      have H1 : ((span_Has.f x276000_1 x276001_1 x10_1).bind fun t279 => (some t279)) = some r := by rw [if_pos rfl] at H; exact H
      clear H; have H := H1; clear H1; replace H := Option.bind_eq_some_iff.mp H; obtain ⟨t279, A670, H⟩ := H
      replace H : (some t279) = some r := H
      have A67 := Aside0.mk A670; clear A670
      obtain rfl := Option.some.inj H
      have hnb68 := NB274_271.out; have hnc68 := NB271_274.out; have hnb69 := NB274_272.out; have hnc69 := NB272_274.out; have hnb70 := NB274_275.out; have hnc70 := NB275_274.out; have hcz71_0 : wr.cell? ⟨gb274, 0, none⟩ = some (.int .u64 x275000_1) := (blk_cell BK274.out 0).trans rfl; have hcz71_1 : wr.cell? ⟨gb274, 1, none⟩ = some (.int .u64 x275001_1) := (blk_cell BK274.out 1).trans rfl; have hfz71_0 := blk_frozen BK274.out 0; have hfz71_1 := blk_frozen BK274.out 1
      go_wp2_with (first | ((with_reducible refine gate_callee (f := 39) rfl ?_); refine goesL_ (some 90) rfl rfl Try.func39 (by kernel_rfl) rfl #[.agg #[.int .u64 x275000_1, .int .u64 x275001_1], .int .u64 x9_1] rfl (by (try simp only [List.map_toArray, List.map_cons, List.map_nil]); first | done | rfl | (simp only [List.length_drop, List.length_take]; rfl)) ?_; (with_reducible refine (span_Has.calls x275000_1 x275001_1 x9_1 true _ A65.out).mono ?_); rintro e w72 ⟨rfl, hb⟩; refine ⟨_, rfl, ?_⟩; have n0_ := Aside0.mk (blk_below (g := gb271) (o := .cells #[.int .u64 a1_0, .int .u64 a1_1, .int .u64 a1_2, .int .u64 a1_3] 63 (0, 0)) (by (with_reducible repeat (first | apply bN | apply bD | apply bA)); exact BK271.out) hb); have n1_ := Aside0.mk (blk_below (g := gb272) (o := .cells #[.int .u64 a2_0, .int .u64 a2_1] 26 (0, 0)) (by (with_reducible repeat (first | apply bN | apply bD | apply bA)); exact BK272.out) hb); have n2_ := Aside0.mk (blk_below (g := gb274) (o := .cells #[.int .u64 x275000_1, .int .u64 x275001_1] 58 (0, 0)) (by (with_reducible repeat (first | apply bN | apply bD | apply bA)); exact BK274.out) hb); have n3_ := Aside0.mk (blk_below (g := gb275) (o := .cells #[.int .u64 x276000_1, .int .u64 x276001_1] 58 (0, 0)) (by (with_reducible repeat (first | apply bN | apply bD | apply bA)); exact BK275.out) hb); have n4_ := Aside0.mk (below_step (by repeat (first | (with_reducible first | exact HB.out | apply lA | apply lN | apply lD | refine lS ?_ ‹_›) | exact HB.out)) hb); clear BK271; clear BK272; clear BK274; clear BK275; clear HB; have BK271 := n0_; have BK272 := n1_; have BK274 := n2_; have BK275 := n3_; have HB := n4_; clear n0_ n1_ n2_ n3_ n4_; (try clear hb); (try clear hb2); (try clear hk); (try clear hi); have hnb73 := NB275_271.out; have hnc73 := NB271_275.out; have hnb74 := NB275_272.out; have hnc74 := NB272_275.out; have hcz75_0 : w72.cell? ⟨gb275, 0, none⟩ = some (.int .u64 x276000_1) := (blk_cell BK275.out 0).trans rfl; have hcz75_1 : w72.cell? ⟨gb275, 1, none⟩ = some (.int .u64 x276001_1) := (blk_cell BK275.out 1).trans rfl; have hfz75_0 := blk_frozen BK275.out 0; have hfz75_1 := blk_frozen BK275.out 1) | (go_at_call 39; (with_reducible refine (span_Has.calls x276000_1 x276001_1 x10_1 t279 _ A67.out).mono ?_); rintro e w76 ⟨rfl, hb⟩; have n0_ := Aside0.mk (blk_below (g := gb271) (o := .cells #[.int .u64 a1_0, .int .u64 a1_1, .int .u64 a1_2, .int .u64 a1_3] 63 (0, 0)) (by (with_reducible repeat (first | apply bN | apply bD | apply bA)); exact BK271.out) hb); have n1_ := Aside0.mk (blk_below (g := gb272) (o := .cells #[.int .u64 a2_0, .int .u64 a2_1] 26 (0, 0)) (by (with_reducible repeat (first | apply bN | apply bD | apply bA)); exact BK272.out) hb); have n2_ := Aside0.mk (blk_below (g := gb274) (o := .cells #[.int .u64 x275000_1, .int .u64 x275001_1] 58 (0, 0)) (by (with_reducible repeat (first | apply bN | apply bD | apply bA)); exact BK274.out) hb); have n3_ := Aside0.mk (blk_below (g := gb275) (o := .cells #[.int .u64 x276000_1, .int .u64 x276001_1] 58 (0, 0)) (by (with_reducible repeat (first | apply bN | apply bD | apply bA)); exact BK275.out) hb); have n4_ := Aside0.mk (below_step (by repeat (first | (with_reducible first | exact HB.out | apply lA | apply lN | apply lD | refine lS ?_ ‹_›) | exact HB.out)) hb); clear BK271; clear BK272; clear BK274; clear BK275; clear HB; have BK271 := n0_; have BK272 := n1_; have BK274 := n2_; have BK275 := n3_; have HB := n4_; clear n0_ n1_ n2_ n3_ n4_; (try clear hb); (try clear hb2); (try clear hk); (try clear hi)))
      go_ret
      exact ⟨by first | rfl | (simp [errW_none, errW_some] <;> rfl) | (simp [*, errW_none, errW_some] <;> rfl), by repeat (first | (with_reducible first | exact HB.out | apply lA | apply lN | apply lD | refine lS ?_ ‹_›) | exact HB.out)⟩
     ·
      replace c66 := Bool.eq_false_iff.mpr c66
      subst c66
      have H1 : (some false) = some r := by rw [if_neg (show ¬ (false = true) by decide)] at H; exact H
      clear H; have H := H1; clear H1
      exact absurd (H.trans (congrArg some hr_.out)) (by simp)
 ·
  replace c5 := Bool.eq_false_iff.mpr c5
  subst c5
  have H1 : (some false) = some r := by rw [if_neg (show ¬ (false = true) by decide)] at H; exact H
  clear H; have H := H1; clear H1
  exact absurd (H.trans (congrArg some hr_.out)) (by simp)

end Go.Proofs.Ytladlljnpmpdpaa.PSpanChains
