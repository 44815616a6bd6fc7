-- Written by a program of this session (a variant of the print), for this claim. Lean checks it.
import Derived.Test.YtladlljnpmpdpaaPTnumChainsx0
import Derived.Test.YtladlljnpmpdpaaPTnumChainsx4
import Derived.Test.YtladlljnpmpdpaaPTnumChainsx5
import Derived.Test.YtladlljnpmpdpaaPTnumChainsx6
namespace Go.Proofs.Ytladlljnpmpdpaa.PTnumChains
open Go.RowKit Go.Proofs.YtladlljnpmpdpaaW.PrintWords Go.Proofs.YtladlljnpmpdpaaW.PrintLast Go.Proofs.YtladlljnpmpdpaaW.PrintMore
attribute [local go_sem] max2_int min2_int max_two min_two max_three min_three max_four min_four   -- for this text's walks alone
attribute [local go_sem high] Go.Proofs.Ytladlljnpmpdpaa.NotLaw.not_u64 Go.Proofs.Ytladlljnpmpdpaa.NotLaw.not_u32 Go.Proofs.Ytladlljnpmpdpaa.NotLaw.not_u16 Go.Proofs.Ytladlljnpmpdpaa.NotLaw.not_u8
set_option linter.unusedVariables false
set_option linter.unusedSimpArgs false

/-! ### tnum_Has: function 19 -/
def tnum_Has.f (a0_0 : Int) (a0_1 : Int) (a1 : Int) : Option (Bool) := some ((Go.bits .andNot .u64 (Go.bits .xor .u64 a0_0 a1) a0_1) == 0)
set_option maxHeartbeats 8000000 in
set_option maxRecDepth 100000 in
theorem tnum_Has.calls (a0_0 : Int) (a0_1 : Int) (a1 : Int) (r : Bool) (w : World) (h : tnum_Has.f a0_0 a0_1 a1 = some r) :
    Calls Try.prog 19 #[.agg #[.int .u64 a0_0, .int .u64 a0_1], .int .u64 a1] w fun e w' => e = .returned (.bool r) ∧ Below w.heap.size w w' := by
  have hu24 := Try.underlying24
  have HB := Aside0.mk (Below.refl w.heap.size w)
  have H : (some ((Go.bits .andNot .u64 (Go.bits .xor .u64 a0_0 a1) a0_1) == 0)) = some r := h
  clear h
  obtain rfl := Option.some.inj H
  go_enter Try.func19, Try.ntmps19
  go_wp2_with (first | ((with_reducible refine gate_dst (N := 2) rfl ?_); refine box_event ?hg (N := 2) ?hd (cs := #[.int .u64 a0_0, .int .u64 a0_1]) (t := 24) ?hr ?_; (case hd => rfl); (case hg => rfl); (case hr => first | (go_simp; done) | (go_simp; rfl)); intro gb196 hg w3 hbox hb; have n0_ := Aside0.mk (below_step (by repeat (first | (with_reducible first | exact HB.out | apply below_alloc | apply pw_below_drewN | apply below_drew1) | exact HB.out)) hb); have n1_ := Aside0.mk (hbox); have n2_ := Aside0.mk ((by rw [hg]; exact (below_size (by repeat (first | (with_reducible first | exact HB.out | apply below_alloc | apply pw_below_drewN | apply below_drew1) | exact HB.out))) : w.heap.size ≤ gb196)); have n3_ := Aside0.mk ((by rw [hg]; exact (below_size (by repeat (first | (with_reducible first | exact HB.out | apply below_alloc | apply pw_below_drewN | apply below_drew1) | exact HB.out))) : w.heap.size ≤ gb196)); clear HB; have HB := n0_; have BK196 := n1_; have GW196 := n2_; have GE196 := n3_; clear n0_ n1_ n2_ n3_; clear hb hbox hg; have hcz4_0 : w3.cell? ⟨gb196, 0, none⟩ = some (.int .u64 a0_0) := (blk_cell BK196.out 0).trans rfl; have hcz4_1 : w3.cell? ⟨gb196, 1, none⟩ = some (.int .u64 a0_1) := (blk_cell BK196.out 1).trans rfl; have hfz4_0 := blk_frozen BK196.out 0; have hfz4_1 := blk_frozen BK196.out 1))
  go_ret
  exact ⟨by first | rfl | (simp [errW_none, errW_some] <;> rfl) | (simp [*, errW_none, errW_some] <;> rfl), by repeat (first | (with_reducible first | exact HB.out | apply below_alloc | apply pw_below_drewN | apply below_drew1 | refine below_set ?_ GE196.out) | exact HB.out)⟩

/-! ### posternlaw14_TnumChains: function 6 -/
def posternlaw14_TnumChains.l0 : Nat → Int → Int → List Int → Int → Int → Int → Int → Int → Int → Option (Bool)
  | 0, _, _, _, _, _, _, _, _, _ => none
  | k + 1, x9, x10, x33, x34, x35, x201000, x201001, x202000, x202001 => if x35 < x34 then (if 0 ≤ x35 then (if x35 < (x33.length : Int) then (if x35 ≥ 20 then ((tnum_Has.f x201000 x201001 x9).bind fun t207 => (if t207 = true then ((tnum_Has.f x202000 x202001 x10).bind fun t208 => (some t208)) else (some false))) else ((tnum_Do.f k (wrap64 ((wrap64 (Int.tmod (IntKind.u64.wrap (rd x33 x35)) 13)) * 16)) ((Int.tmod (IntKind.u64.wrap (Int.tdiv (IntKind.u64.wrap (rd x33 x35)) 13)) 2) == 0) x201000 x201001 x202000 x202001).bind fun bt209 => ((posternlaw14_size.f ((Int.tmod (IntKind.u64.wrap (Int.tdiv (IntKind.u64.wrap (rd x33 x35)) 13)) 2) == 0)).bind fun t213 => ((posternref05_Do.f k (wrap64 ((wrap64 (Int.tmod (IntKind.u64.wrap (rd x33 x35)) 13)) * 16)) t213 x9 x10).bind fun bt214 => (if bt209.2.2 = 0 then ((tnum_Has.f bt209.1 bt209.2.1 bt214.1).bind fun t216 => (if t216 = true then (posternlaw14_TnumChains.l0 k x10 bt214.1 x33 x34 (wrap64 (x35 + 1)) x202000 x202001 bt209.1 bt209.2.1) else (some false))) else (some false)))))) else (none)) else (none)) else ((tnum_Has.f x201000 x201001 x9).bind fun t204 => (if t204 = true then ((tnum_Has.f x202000 x202001 x10).bind fun t205 => (some t205)) else (some false)))
def posternlaw14_TnumChains.f (k : Nat) (l0 : List Int) (a1_0 : Int) (a1_1 : Int) (a1_2 : Int) (a1_3 : Int) (a2_0 : Int) (a2_1 : Int) : Option (Bool) := (posternlaw14_first.f k).bind fun t199 => (if t199 = true then ((posternref14_Member.f a1_0 a1_1 a2_0).bind fun t202 => ((posternref14_Member.f a1_2 a1_3 a2_1).bind fun t203 => (posternlaw14_TnumChains.l0 k t202 t203 l0 (l0.length : Int) 0 a1_0 a1_1 a1_2 a1_3))) else (some false))
theorem posternlaw14_TnumChains.mono_l : ∀ k, (∀ y0 y1 y2 y3 y4 y5 y6 y7 y8, LeO (posternlaw14_TnumChains.l0 k y0 y1 y2 y3 y4 y5 y6 y7 y8) (posternlaw14_TnumChains.l0 (k + 1) y0 y1 y2 y3 y4 y5 y6 y7 y8))
  | 0 => fun _ _ _ _ _ _ _ _ _ r h => by simp [posternlaw14_TnumChains.l0] at h
  | k + 1 => by
    have ih0 := posternlaw14_TnumChains.mono_l k
    · intro y0 y1 y2 y3 y4 y5 y6 y7 y8
      unfold posternlaw14_TnumChains.l0
      repeat' first
      | (with_reducible exact ih0 _ _ _ _ _ _ _ _ _)
      | (with_reducible exact posternlaw14_first.mono _)
      | (with_reducible exact posternref05_Do.mono _ _ _ _ _)
      | (with_reducible exact tnum_Do.mono _ _ _ _ _ _ _)
      | (with_reducible exact LeO.refl _)
      | (with_reducible exact LeO.none _)
      | (with_reducible refine LeO.ite ?_ ?_)
      | (with_reducible refine LeO.bind ?_ (fun _ => ?_))
      | exact ih0 _ _ _ _ _ _ _ _ _
      | exact posternlaw14_first.mono _
      | exact posternref05_Do.mono _ _ _ _ _
      | exact tnum_Do.mono _ _ _ _ _ _ _
      | exact LeO.none _
      | refine LeO.ite ?_ ?_
      | refine LeO.bind ?_ (fun _ => ?_)
theorem posternlaw14_TnumChains.mono : ∀ a0 a1 a2 a3 a4 a5 a6 k, LeO (posternlaw14_TnumChains.f k a0 a1 a2 a3 a4 a5 a6) (posternlaw14_TnumChains.f (k + 1) a0 a1 a2 a3 a4 a5 a6) := by
  intro a0 a1 a2 a3 a4 a5 a6 k
  have ih0 := posternlaw14_TnumChains.mono_l k
  unfold posternlaw14_TnumChains.f
  repeat' first
      | (with_reducible exact ih0 _ _ _ _ _ _ _ _ _)
      | (with_reducible exact posternlaw14_first.mono _)
      | (with_reducible exact posternref05_Do.mono _ _ _ _ _)
      | (with_reducible exact tnum_Do.mono _ _ _ _ _ _ _)
      | (with_reducible exact LeO.refl _)
      | (with_reducible exact LeO.none _)
      | (with_reducible refine LeO.ite ?_ ?_)
      | (with_reducible refine LeO.bind ?_ (fun _ => ?_))
      | exact ih0 _ _ _ _ _ _ _ _ _
      | exact posternlaw14_first.mono _
      | exact posternref05_Do.mono _ _ _ _ _
      | exact tnum_Do.mono _ _ _ _ _ _ _
      | exact LeO.none _
      | refine LeO.ite ?_ ?_
      | refine LeO.bind ?_ (fun _ => ?_)
def posternlaw14_TnumChains.T3 : Bool × List (List Nat × List Nat) := (true, [([], []), ([0], [0]), ([], []), ([2], [2]), ([], []), ([], []), ([4, 1, 0, 1, 4, 5], [1, 4]), ([5, 3, 6, 0, 1, 2, 3, 4, 5, 6], [3, 5])])
def posternlaw14_TnumChains.B3 : List Nat := [0, 1, 0, 4, 0, 0, 51, 127]
theorem posternlaw14_TnumChains.tab3 : rtab .any (opsOf Try.f6 3) = posternlaw14_TnumChains.T3 := by kernel_rfl
theorem posternlaw14_TnumChains.bits3 : waitsOk posternlaw14_TnumChains.T3.2 posternlaw14_TnumChains.B3 = true := by kernel_rfl
def posternlaw14_TnumChains.T4 : Bool × List (List Nat × List Nat) := (true, [([], []), ([], []), ([1], [1]), ([0, 2], [0, 2]), ([], []), ([], []), ([5], [5]), ([4, 6, 3], [4, 6]), ([3, 7, 0, 1, 2, 3], [3]), ([7, 8, 0, 1, 2, 3, 4, 5, 6, 7, 8], [7])])
def posternlaw14_TnumChains.B4 : List Nat := [0, 0, 2, 7, 0, 0, 32, 127, 255, 511]
theorem posternlaw14_TnumChains.tab4 : rtab .any (opsOf Try.f6 4) = posternlaw14_TnumChains.T4 := by kernel_rfl
theorem posternlaw14_TnumChains.bits4 : waitsOk posternlaw14_TnumChains.T4.2 posternlaw14_TnumChains.B4 = true := by kernel_rfl
set_option maxHeartbeats 8000000 in
set_option maxRecDepth 100000 in
theorem posternlaw14_TnumChains.calls (k : Nat) (A0 : Option Addr) (c0 : Nat) (l0 : List Int) (a1_0 : Int) (a1_1 : Int) (a1_2 : Int) (a1_3 : Int) (a2_0 : Int) (a2_1 : Int) (r : Bool) (w : World) (hr_ : Aside0 (r = true)) (hr0 : Kd.C (Kd.int .i64) w A0 l0.length l0) (hc0 : l0.length ≤ c0) (h : posternlaw14_TnumChains.f k l0 a1_0 a1_1 a1_2 a1_3 a2_0 a2_1 = some r) :
    Calls Try.prog 6 #[.slice A0 l0.length c0, .agg #[.int .u64 a1_0, .int .u64 a1_1, .int .u64 a1_2, .int .u64 a1_3], .agg #[.int .u64 a2_0, .int .u64 a2_1]] w fun e w' => e = .returned (.bool r) ∧ Below w.heap.size w w' := by
  have hu25 := Try.underlying25
  have hu26 := Try.underlying26
  have hu24 := Try.underlying24
  have HR0 := Aside0.mk hr0
  have HC0 := Aside0.mk hc0
  clear hr0 hc0
  have HB := Aside0.mk (Below.refl w.heap.size w)
  have H : ((posternlaw14_first.f k).bind fun t199 => (if t199 = true then ((posternref14_Member.f a1_0 a1_1 a2_0).bind fun t202 => ((posternref14_Member.f a1_2 a1_3 a2_1).bind fun t203 => (posternlaw14_TnumChains.l0 k t202 t203 l0 (l0.length : Int) 0 a1_0 a1_1 a1_2 a1_3))) else (some false))) = some r := h
  clear h
  replace H := Option.bind_eq_some_iff.mp H
  obtain ⟨t199, A40, H⟩ := H
  replace H : (if t199 = true then ((posternref14_Member.f a1_0 a1_1 a2_0).bind fun t202 => ((posternref14_Member.f a1_2 a1_3 a2_1).bind fun t203 => (posternlaw14_TnumChains.l0 k t202 t203 l0 (l0.length : Int) 0 a1_0 a1_1 a1_2 a1_3))) else (some false)) = some r := H
  have A4 := Aside0.mk A40
  clear A40
  by_cases c5 : t199 = true
  · subst c5
    have H1 : ((posternref14_Member.f a1_0 a1_1 a2_0).bind fun t202 => ((posternref14_Member.f a1_2 a1_3 a2_1).bind fun t203 => (posternlaw14_TnumChains.l0 k t202 t203 l0 (l0.length : Int) 0 a1_0 a1_1 a1_2 a1_3))) = some r := by rw [if_pos rfl] at H; exact H
    clear H
    have H := H1
    clear H1
    replace H := Option.bind_eq_some_iff.mp H
    obtain ⟨t202, A60, H⟩ := H
    replace H : ((posternref14_Member.f a1_2 a1_3 a2_1).bind fun t203 => (posternlaw14_TnumChains.l0 k t202 t203 l0 (l0.length : Int) 0 a1_0 a1_1 a1_2 a1_3)) = some r := H
    have A6 := Aside0.mk A60
    clear A60
    replace H := Option.bind_eq_some_iff.mp H
    obtain ⟨t203, A70, H⟩ := H
    replace H : (posternlaw14_TnumChains.l0 k t202 t203 l0 (l0.length : Int) 0 a1_0 a1_1 a1_2 a1_3) = some r := H
    have A7 := Aside0.mk A70
    clear A70
    have H' := Aside0.mk H
    clear H
    go_enter Try.func6, Try.ntmps6
    try go_wp2_with (first | ((with_reducible refine gate_dst (N := 4) rfl ?_); refine box_event ?hg (N := 4) ?hd (cs := #[.int .u64 a1_0, .int .u64 a1_1, .int .u64 a1_2, .int .u64 a1_3]) (t := 25) ?hr ?_; (case hd => rfl); (case hg => rfl); (case hr => first | (go_simp; done) | (go_simp; rfl)); intro gb197 hg w8 hbox hb; have n0_ := Aside0.mk (below_step (by repeat (first | (with_reducible first | exact HB.out | apply below_alloc | apply pw_below_drewN | apply below_drew1) | exact HB.out)) hb); have n1_ := Aside0.mk (hbox); have n2_ := Aside0.mk ((by rw [hg]; exact (below_size (by repeat (first | (with_reducible first | exact HB.out | apply below_alloc | apply pw_below_drewN | apply below_drew1) | exact HB.out))) : w.heap.size ≤ gb197)); have n3_ := Aside0.mk ((by rw [hg]; exact (below_size (by repeat (first | (with_reducible first | exact HB.out | apply below_alloc | apply pw_below_drewN | apply below_drew1) | exact HB.out))) : w.heap.size ≤ gb197)); clear HB; have HB := n0_; have BK197 := n1_; have GW197 := n2_; have GE197 := n3_; clear n0_ n1_ n2_ n3_; clear hb hbox hg) | ((with_reducible refine gate_dst (N := 5) rfl ?_); refine box_event ?hg (N := 5) ?hd (cs := #[.int .u64 a2_0, .int .u64 a2_1]) (t := 26) ?hr ?_; (case hd => rfl); (case hg => rfl); (case hr => first | (go_simp; done) | (go_simp; rfl)); intro gb198 hg w9 hbox hb; have n0_ := Aside0.mk (blk_below (g := gb197) (o := .cells #[.int .u64 a1_0, .int .u64 a1_1, .int .u64 a1_2, .int .u64 a1_3] 25 (0, 0)) (by (with_reducible repeat (first | refine blk_drewN ?_ _ | refine blk_drew ?_ | refine blk_alloc ?_ _)); exact BK197.out) hb); have n1_ := Aside0.mk (below_step (by repeat (first | (with_reducible first | exact HB.out | apply below_alloc | apply pw_below_drewN | apply below_drew1 | refine below_set ?_ GE197.out) | exact HB.out)) hb); have n2_ := Aside0.mk (hbox); have n3_ := Aside0.mk ((by rw [hg]; exact (below_size (by repeat (first | (with_reducible first | exact HB.out | apply below_alloc | apply pw_below_drewN | apply below_drew1 | refine below_set ?_ GE197.out) | exact HB.out))) : w.heap.size ≤ gb198)); have n4_ := Aside0.mk ((by rw [hg]; exact (below_size (by repeat (first | (with_reducible first | exact HB.out | apply below_alloc | apply pw_below_drewN | apply below_drew1 | refine below_set ?_ GE197.out) | exact HB.out))) : w.heap.size ≤ gb198)); have n5_ := Aside0.mk ((by rw [hg]; exact Nat.ne_of_lt (blk_lt (g := gb197) (o := .cells #[.int .u64 a1_0, .int .u64 a1_1, .int .u64 a1_2, .int .u64 a1_3] 25 (0, 0)) (by (with_reducible repeat (first | refine blk_drewN ?_ _ | refine blk_drew ?_ | refine blk_alloc ?_ _)); exact BK197.out)) : gb197 ≠ gb198)); have n6_ := Aside0.mk ((by rw [hg]; exact Nat.ne_of_gt (blk_lt (g := gb197) (o := .cells #[.int .u64 a1_0, .int .u64 a1_1, .int .u64 a1_2, .int .u64 a1_3] 25 (0, 0)) (by (with_reducible repeat (first | refine blk_drewN ?_ _ | refine blk_drew ?_ | refine blk_alloc ?_ _)); exact BK197.out)) : gb198 ≠ gb197)); clear BK197; clear HB; have BK197 := n0_; have HB := n1_; have BK198 := n2_; have GW198 := n3_; have GE198 := n4_; have NB197_198 := n5_; have NB198_197 := n6_; clear n0_ n1_ n2_ n3_ n4_ n5_ n6_; clear hb hbox hg) | ((with_reducible refine gate_callee (f := 13) rfl ?_); refine goesL_ (some 19) rfl rfl Try.func13 (by kernel_rfl) rfl #[] rfl (by (try simp only [List.map_toArray, List.map_cons, List.map_nil]); first | done | rfl | (simp only [List.length_drop, List.length_take]; rfl)) ?_; (with_reducible refine (posternlaw14_first.calls k  true _ A4.out).mono ?_); rintro e w10 ⟨rfl, hb⟩; refine ⟨_, rfl, ?_⟩; have n0_ := Aside0.mk (blk_below (g := gb197) (o := .cells #[.int .u64 a1_0, .int .u64 a1_1, .int .u64 a1_2, .int .u64 a1_3] 25 (0, 0)) (by (with_reducible repeat (first | refine blk_drewN ?_ _ | refine blk_drew ?_ | refine blk_alloc ?_ _)); exact BK197.out) hb); have n1_ := Aside0.mk (blk_below (g := gb198) (o := .cells #[.int .u64 a2_0, .int .u64 a2_1] 26 (0, 0)) (by (with_reducible repeat (first | refine blk_drewN ?_ _ | refine blk_drew ?_ | refine blk_alloc ?_ _)); exact BK198.out) hb); have n2_ := Aside0.mk (below_step (by repeat (first | (with_reducible first | exact HB.out | apply below_alloc | apply pw_below_drewN | apply below_drew1 | refine below_set ?_ GE197.out | refine below_set ?_ GE198.out) | exact HB.out)) hb); clear BK197; clear BK198; clear HB; have BK197 := n0_; have BK198 := n1_; have HB := n2_; clear n0_ n1_ n2_; (try clear hb); (try clear hb2); (try clear hk); (try clear hi)))
    have n0_ := Aside0.mk (blk_drew BK197.out)
    have n1_ := Aside0.mk (blk_drew BK198.out)
    have n2_ := Aside0.mk (below_drew1 HB.out)
    clear BK197
    clear BK198
    clear HB
    have BK197 := n0_
    have BK198 := n1_
    have HB := n2_
    clear n0_ n1_ n2_
    refine start_ (n := 8) (S := fun w' => w'.cell? ⟨gb197, 0, none⟩ = some (.int .u64 a1_0) ∧ w'.cell? ⟨gb197, 1, none⟩ = some (.int .u64 a1_1) ∧ w'.cell? ⟨gb197, 2, none⟩ = some (.int .u64 a1_2) ∧ w'.cell? ⟨gb197, 3, none⟩ = some (.int .u64 a1_3)) (ds := []) #[false, false, false, false, false, false, false, false] (by kernel_rfl) rfl rfl ⟨(blk_cell BK197.out 0).trans rfl, (blk_cell BK197.out 1).trans rfl, (blk_cell BK197.out 2).trans rfl, (blk_cell BK197.out 3).trans rfl⟩ (fun hHeld => ?_); refine with_tabW posternlaw14_TnumChains.tab3 posternlaw14_TnumChains.bits3 (fun HT_ HW_ => ?_)
    generalize w10.drew = w11 at BK197 BK198 HB hHeld ⊢
    refine pure_ (i := 0) (N := some 21) (v := ?_) (a' := ?_) #[true, false, false, false, false, false, false, false] rfl rfl (any_of HT_.out (by kernel_rfl)) (fun _ _ _ h => h) (Or.inl ⟨by rfl, ?_⟩) ?_ ?_
    rotate_left
    · intro w'
      go_simp
      with_reducible rfl
    rotate_left
    · simp only [Act.put, List.setIfInBounds_toArray, List.set_cons_zero, List.set_cons_succ, i64_w, i32_w]
      rfl
    refine pure_ (i := 2) (N := some 23) (v := ?_) (a' := ?_) #[true, false, true, false, false, false, false, false] rfl rfl (any_of HT_.out (by kernel_rfl)) (fun _ _ _ h => h) (Or.inl ⟨by rfl, ?_⟩) ?_ ?_
    rotate_left
    · intro w'
      go_simp
      with_reducible rfl
    rotate_left
    · simp only [Act.put, List.setIfInBounds_toArray, List.set_cons_zero, List.set_cons_succ, i64_w, i32_w]
      rfl
    refine take_ (i := 1) (N := some 22) (v := ?_) (a' := ?_) #[true, true, true, false, false, false, false, false] rfl rfl (take_ofW HT_.out HW_.out (by kernel_rfl)) (fun _ _ _ h => h) (Or.inl ⟨by rfl, ?_⟩) hHeld ?_ ?_
    rotate_left
    · rintro w' ⟨s0, s1, s2, s3⟩
      go_simp
      with_reducible rfl
    rotate_left
    · simp only [Act.put, List.setIfInBounds_toArray, List.set_cons_zero, List.set_cons_succ, i64_w, i32_w]
      rfl
    refine take_ (i := 3) (N := some 24) (v := ?_) (a' := ?_) #[true, true, true, true, false, false, false, false] rfl rfl (take_ofW HT_.out HW_.out (by kernel_rfl)) (fun _ _ _ h => h) (Or.inl ⟨by rfl, ?_⟩) hHeld ?_ ?_
    rotate_left
    · rintro w' ⟨s0, s1, s2, s3⟩
      go_simp
      with_reducible rfl
    rotate_left
    · simp only [Act.put, List.setIfInBounds_toArray, List.set_cons_zero, List.set_cons_succ, i64_w, i32_w]
      rfl
    refine join_ (σ := Nat × Nat) 2 #[true, true, true, true, true, true, false, false] (fun s_ => [(7, .pointer (some ⟨s_.1, 0, none⟩)), (8, .pointer (some ⟨s_.2, 0, none⟩))]) (fun s_ w' => (w'.cell? ⟨gb197, 0, none⟩ = some (.int .u64 a1_0) ∧ w'.cell? ⟨gb197, 1, none⟩ = some (.int .u64 a1_1) ∧ w'.cell? ⟨gb197, 2, none⟩ = some (.int .u64 a1_2) ∧ w'.cell? ⟨gb197, 3, none⟩ = some (.int .u64 a1_3)) ∧ (w'.heap[gb197]? = some (.cells #[.int .u64 a1_0, .int .u64 a1_1, .int .u64 a1_2, .int .u64 a1_3] 25 (0, 0))) ∧ (w'.heap[gb198]? = some (.cells #[.int .u64 a2_0, .int .u64 a2_1] 26 (0, 0))) ∧ (w'.heap[s_.1]? = some (.cells #[.int .u64 0, .int .u64 0] 24 (0, 0))) ∧ (w'.heap[s_.2]? = some (.cells #[.int .u64 0, .int .u64 0] 24 (0, 0))) ∧ (w.heap.size ≤ s_.1) ∧ (w.heap.size ≤ s_.1) ∧ (gb197 ≠ s_.1) ∧ (s_.1 ≠ gb197) ∧ (gb198 ≠ s_.1) ∧ (s_.1 ≠ gb198) ∧ (s_.2 ≠ s_.1) ∧ (s_.1 ≠ s_.2) ∧ (w.heap.size ≤ s_.2) ∧ (w.heap.size ≤ s_.2) ∧ (gb197 ≠ s_.2) ∧ (s_.2 ≠ gb197) ∧ (gb198 ≠ s_.2) ∧ (s_.2 ≠ gb198) ∧ (Below w.heap.size w w')) ?_ ?_
    rotate_left
    · intro hCont
      refine two_ (i := 4) (j := 5) (Ni := some 7) (Nj := some 8) #[true, true, true, true, true, false, false, false] #[true, true, true, true, false, true, false, false] rfl rfl rfl rfl (two_of HT_.out (by kernel_rfl)) (by decide) (by decide) (fun K hK => ?_) (fun K hK => ?_)
      · skip
        refine box_step ?hg (N := 7) ?hd (cs := #[.int .u64 0, .int .u64 0]) (t := 24) ?hr ?_; (case hd => rfl); (case hg => rfl); (case hr => first | (go_simp; done) | (go_simp; rfl))
        intro gb200 hg w12 hbox hb
        have n0_ := Aside0.mk (blk_below (g := gb197) (o := .cells #[.int .u64 a1_0, .int .u64 a1_1, .int .u64 a1_2, .int .u64 a1_3] 25 (0, 0)) (by (with_reducible repeat (first | refine blk_drewN ?_ _ | refine blk_drew ?_ | refine blk_alloc ?_ _)); exact BK197.out) hb)
        have n1_ := Aside0.mk (blk_below (g := gb198) (o := .cells #[.int .u64 a2_0, .int .u64 a2_1] 26 (0, 0)) (by (with_reducible repeat (first | refine blk_drewN ?_ _ | refine blk_drew ?_ | refine blk_alloc ?_ _)); exact BK198.out) hb)
        have n2_ := Aside0.mk (below_step (by repeat (first | (with_reducible first | exact HB.out | apply below_alloc | apply pw_below_drewN | apply below_drew1 | refine below_set ?_ GE197.out | refine below_set ?_ GE198.out) | exact HB.out)) hb)
        have n3_ := Aside0.mk (hbox)
        have n4_ := Aside0.mk ((by rw [hg]; exact (below_size (by repeat (first | (with_reducible first | exact HB.out | apply below_alloc | apply pw_below_drewN | apply below_drew1 | refine below_set ?_ GE197.out | refine below_set ?_ GE198.out) | exact HB.out))) : w.heap.size ≤ gb200))
        have n5_ := Aside0.mk ((by rw [hg]; exact (below_size (by repeat (first | (with_reducible first | exact HB.out | apply below_alloc | apply pw_below_drewN | apply below_drew1 | refine below_set ?_ GE197.out | refine below_set ?_ GE198.out) | exact HB.out))) : w.heap.size ≤ gb200))
        have n6_ := Aside0.mk ((by rw [hg]; exact Nat.ne_of_lt (blk_lt (g := gb197) (o := .cells #[.int .u64 a1_0, .int .u64 a1_1, .int .u64 a1_2, .int .u64 a1_3] 25 (0, 0)) (by (with_reducible repeat (first | refine blk_drewN ?_ _ | refine blk_drew ?_ | refine blk_alloc ?_ _)); exact BK197.out)) : gb197 ≠ gb200))
        have n7_ := Aside0.mk ((by rw [hg]; exact Nat.ne_of_gt (blk_lt (g := gb197) (o := .cells #[.int .u64 a1_0, .int .u64 a1_1, .int .u64 a1_2, .int .u64 a1_3] 25 (0, 0)) (by (with_reducible repeat (first | refine blk_drewN ?_ _ | refine blk_drew ?_ | refine blk_alloc ?_ _)); exact BK197.out)) : gb200 ≠ gb197))
        have n8_ := Aside0.mk ((by rw [hg]; exact Nat.ne_of_lt (blk_lt (g := gb198) (o := .cells #[.int .u64 a2_0, .int .u64 a2_1] 26 (0, 0)) (by (with_reducible repeat (first | refine blk_drewN ?_ _ | refine blk_drew ?_ | refine blk_alloc ?_ _)); exact BK198.out)) : gb198 ≠ gb200))
        have n9_ := Aside0.mk ((by rw [hg]; exact Nat.ne_of_gt (blk_lt (g := gb198) (o := .cells #[.int .u64 a2_0, .int .u64 a2_1] 26 (0, 0)) (by (with_reducible repeat (first | refine blk_drewN ?_ _ | refine blk_drew ?_ | refine blk_alloc ?_ _)); exact BK198.out)) : gb200 ≠ gb198))
        clear BK197
        clear BK198
        clear HB
        have BK197 := n0_
        have BK198 := n1_
        have HB := n2_
        have BK200 := n3_
        have GW200 := n4_
        have GE200 := n5_
        have NB197_200 := n6_
        have NB200_197 := n7_
        have NB198_200 := n8_
        have NB200_198 := n9_
        clear n0_ n1_ n2_ n3_ n4_ n5_ n6_ n7_ n8_ n9_
        clear hb hbox hg
        refine hK.out _ _ ⟨(blk_cell BK197.out 0).trans rfl, (blk_cell BK197.out 1).trans rfl, (blk_cell BK197.out 2).trans rfl, (blk_cell BK197.out 3).trans rfl⟩ (fun hHeld => ?_)
        clear hK K
        refine norm_ (a' := ?_) ?_ ?_
        rotate_left
        · show Act.put _ (some 7) _ = _
          simp only [Act.put, List.setIfInBounds_toArray, List.set_cons_zero, List.set_cons_succ, i64_w, i32_w]
          rfl
        refine one_ (i := 5) (N := some 8) #[true, true, true, true, true, true, false, false] rfl rfl (one_of HT_.out (by kernel_rfl)) (by decide) (fun K hK => ?_)
        refine box_step ?hg (N := 8) ?hd (cs := #[.int .u64 0, .int .u64 0]) (t := 24) ?hr ?_; (case hd => rfl); (case hg => rfl); (case hr => first | (go_simp; done) | (go_simp; rfl))
        intro gb201 hg w13 hbox hb
        have n0_ := Aside0.mk (blk_below (g := gb197) (o := .cells #[.int .u64 a1_0, .int .u64 a1_1, .int .u64 a1_2, .int .u64 a1_3] 25 (0, 0)) (by (with_reducible repeat (first | refine blk_drewN ?_ _ | refine blk_drew ?_ | refine blk_alloc ?_ _)); exact BK197.out) hb)
        have n1_ := Aside0.mk (blk_below (g := gb198) (o := .cells #[.int .u64 a2_0, .int .u64 a2_1] 26 (0, 0)) (by (with_reducible repeat (first | refine blk_drewN ?_ _ | refine blk_drew ?_ | refine blk_alloc ?_ _)); exact BK198.out) hb)
        have n2_ := Aside0.mk (blk_below (g := gb200) (o := .cells #[.int .u64 0, .int .u64 0] 24 (0, 0)) (by (with_reducible repeat (first | refine blk_drewN ?_ _ | refine blk_drew ?_ | refine blk_alloc ?_ _)); exact BK200.out) hb)
        have n3_ := Aside0.mk (below_step (by repeat (first | (with_reducible first | exact HB.out | apply below_alloc | apply pw_below_drewN | apply below_drew1 | refine below_set ?_ GE197.out | refine below_set ?_ GE198.out | refine below_set ?_ GE200.out) | exact HB.out)) hb)
        have n4_ := Aside0.mk (hbox)
        have n5_ := Aside0.mk ((by rw [hg]; exact (below_size (by repeat (first | (with_reducible first | exact HB.out | apply below_alloc | apply pw_below_drewN | apply below_drew1 | refine below_set ?_ GE197.out | refine below_set ?_ GE198.out | refine below_set ?_ GE200.out) | exact HB.out))) : w.heap.size ≤ gb201))
        have n6_ := Aside0.mk ((by rw [hg]; exact (below_size (by repeat (first | (with_reducible first | exact HB.out | apply below_alloc | apply pw_below_drewN | apply below_drew1 | refine below_set ?_ GE197.out | refine below_set ?_ GE198.out | refine below_set ?_ GE200.out) | exact HB.out))) : w.heap.size ≤ gb201))
        have n7_ := Aside0.mk ((by rw [hg]; exact Nat.ne_of_lt (blk_lt (g := gb197) (o := .cells #[.int .u64 a1_0, .int .u64 a1_1, .int .u64 a1_2, .int .u64 a1_3] 25 (0, 0)) (by (with_reducible repeat (first | refine blk_drewN ?_ _ | refine blk_drew ?_ | refine blk_alloc ?_ _)); exact BK197.out)) : gb197 ≠ gb201))
        have n8_ := Aside0.mk ((by rw [hg]; exact Nat.ne_of_gt (blk_lt (g := gb197) (o := .cells #[.int .u64 a1_0, .int .u64 a1_1, .int .u64 a1_2, .int .u64 a1_3] 25 (0, 0)) (by (with_reducible repeat (first | refine blk_drewN ?_ _ | refine blk_drew ?_ | refine blk_alloc ?_ _)); exact BK197.out)) : gb201 ≠ gb197))
        have n9_ := Aside0.mk ((by rw [hg]; exact Nat.ne_of_lt (blk_lt (g := gb198) (o := .cells #[.int .u64 a2_0, .int .u64 a2_1] 26 (0, 0)) (by (with_reducible repeat (first | refine blk_drewN ?_ _ | refine blk_drew ?_ | refine blk_alloc ?_ _)); exact BK198.out)) : gb198 ≠ gb201))
        have n10_ := Aside0.mk ((by rw [hg]; exact Nat.ne_of_gt (blk_lt (g := gb198) (o := .cells #[.int .u64 a2_0, .int .u64 a2_1] 26 (0, 0)) (by (with_reducible repeat (first | refine blk_drewN ?_ _ | refine blk_drew ?_ | refine blk_alloc ?_ _)); exact BK198.out)) : gb201 ≠ gb198))
        have n11_ := Aside0.mk ((by rw [hg]; exact Nat.ne_of_lt (blk_lt (g := gb200) (o := .cells #[.int .u64 0, .int .u64 0] 24 (0, 0)) (by (with_reducible repeat (first | refine blk_drewN ?_ _ | refine blk_drew ?_ | refine blk_alloc ?_ _)); exact BK200.out)) : gb200 ≠ gb201))
        have n12_ := Aside0.mk ((by rw [hg]; exact Nat.ne_of_gt (blk_lt (g := gb200) (o := .cells #[.int .u64 0, .int .u64 0] 24 (0, 0)) (by (with_reducible repeat (first | refine blk_drewN ?_ _ | refine blk_drew ?_ | refine blk_alloc ?_ _)); exact BK200.out)) : gb201 ≠ gb200))
        clear BK197
        clear BK198
        clear BK200
        clear HB
        have BK197 := n0_
        have BK198 := n1_
        have BK200 := n2_
        have HB := n3_
        have BK201 := n4_
        have GW201 := n5_
        have GE201 := n6_
        have NB197_201 := n7_
        have NB201_197 := n8_
        have NB198_201 := n9_
        have NB201_198 := n10_
        have NB200_201 := n11_
        have NB201_200 := n12_
        clear n0_ n1_ n2_ n3_ n4_ n5_ n6_ n7_ n8_ n9_ n10_ n11_ n12_
        clear hb hbox hg
        refine hK.out _ _ ⟨(blk_cell BK197.out 0).trans rfl, (blk_cell BK197.out 1).trans rfl, (blk_cell BK197.out 2).trans rfl, (blk_cell BK197.out 3).trans rfl⟩ (fun hHeld => ?_)
        clear hK K
        refine norm_ (a' := ?_) ?_ ?_
        rotate_left
        · show Act.put _ (some 8) _ = _
          simp only [Act.put, List.setIfInBounds_toArray, List.set_cons_zero, List.set_cons_succ, i64_w, i32_w]
          rfl
        exact norm_ (by simp only [putAll, Act.put, List.setIfInBounds_toArray, List.set_cons_zero, List.set_cons_succ]) (hCont (gb200, gb201) _ ⟨hHeld, (by (with_reducible repeat (first | refine blk_drewN ?_ _ | refine blk_drew ?_ | refine blk_alloc ?_ _)); exact BK197.out), (by (with_reducible repeat (first | refine blk_drewN ?_ _ | refine blk_drew ?_ | refine blk_alloc ?_ _)); exact BK198.out), (by (with_reducible repeat (first | refine blk_drewN ?_ _ | refine blk_drew ?_ | refine blk_alloc ?_ _)); exact BK200.out), (by (with_reducible repeat (first | refine blk_drewN ?_ _ | refine blk_drew ?_ | refine blk_alloc ?_ _)); exact BK201.out), GW200.out, GE200.out, NB197_200.out, NB200_197.out, NB198_200.out, NB200_198.out, NB201_200.out, NB200_201.out, GW201.out, GE201.out, NB197_201.out, NB201_197.out, NB198_201.out, NB201_198.out, (by repeat (first | (with_reducible first | exact HB.out | apply below_alloc | apply pw_below_drewN | apply below_drew1 | refine below_set ?_ GE197.out | refine below_set ?_ GE198.out | refine below_set ?_ GE200.out | refine below_set ?_ GE201.out) | exact HB.out))⟩)
      · skip
        refine box_step ?hg (N := 8) ?hd (cs := #[.int .u64 0, .int .u64 0]) (t := 24) ?hr ?_; (case hd => rfl); (case hg => rfl); (case hr => first | (go_simp; done) | (go_simp; rfl))
        intro gb201 hg w12 hbox hb
        have n0_ := Aside0.mk (blk_below (g := gb197) (o := .cells #[.int .u64 a1_0, .int .u64 a1_1, .int .u64 a1_2, .int .u64 a1_3] 25 (0, 0)) (by (with_reducible repeat (first | refine blk_drewN ?_ _ | refine blk_drew ?_ | refine blk_alloc ?_ _)); exact BK197.out) hb)
        have n1_ := Aside0.mk (blk_below (g := gb198) (o := .cells #[.int .u64 a2_0, .int .u64 a2_1] 26 (0, 0)) (by (with_reducible repeat (first | refine blk_drewN ?_ _ | refine blk_drew ?_ | refine blk_alloc ?_ _)); exact BK198.out) hb)
        have n2_ := Aside0.mk (below_step (by repeat (first | (with_reducible first | exact HB.out | apply below_alloc | apply pw_below_drewN | apply below_drew1 | refine below_set ?_ GE197.out | refine below_set ?_ GE198.out) | exact HB.out)) hb)
        have n3_ := Aside0.mk (hbox)
        have n4_ := Aside0.mk ((by rw [hg]; exact (below_size (by repeat (first | (with_reducible first | exact HB.out | apply below_alloc | apply pw_below_drewN | apply below_drew1 | refine below_set ?_ GE197.out | refine below_set ?_ GE198.out) | exact HB.out))) : w.heap.size ≤ gb201))
        have n5_ := Aside0.mk ((by rw [hg]; exact (below_size (by repeat (first | (with_reducible first | exact HB.out | apply below_alloc | apply pw_below_drewN | apply below_drew1 | refine below_set ?_ GE197.out | refine below_set ?_ GE198.out) | exact HB.out))) : w.heap.size ≤ gb201))
        have n6_ := Aside0.mk ((by rw [hg]; exact Nat.ne_of_lt (blk_lt (g := gb197) (o := .cells #[.int .u64 a1_0, .int .u64 a1_1, .int .u64 a1_2, .int .u64 a1_3] 25 (0, 0)) (by (with_reducible repeat (first | refine blk_drewN ?_ _ | refine blk_drew ?_ | refine blk_alloc ?_ _)); exact BK197.out)) : gb197 ≠ gb201))
        have n7_ := Aside0.mk ((by rw [hg]; exact Nat.ne_of_gt (blk_lt (g := gb197) (o := .cells #[.int .u64 a1_0, .int .u64 a1_1, .int .u64 a1_2, .int .u64 a1_3] 25 (0, 0)) (by (with_reducible repeat (first | refine blk_drewN ?_ _ | refine blk_drew ?_ | refine blk_alloc ?_ _)); exact BK197.out)) : gb201 ≠ gb197))
        have n8_ := Aside0.mk ((by rw [hg]; exact Nat.ne_of_lt (blk_lt (g := gb198) (o := .cells #[.int .u64 a2_0, .int .u64 a2_1] 26 (0, 0)) (by (with_reducible repeat (first | refine blk_drewN ?_ _ | refine blk_drew ?_ | refine blk_alloc ?_ _)); exact BK198.out)) : gb198 ≠ gb201))
        have n9_ := Aside0.mk ((by rw [hg]; exact Nat.ne_of_gt (blk_lt (g := gb198) (o := .cells #[.int .u64 a2_0, .int .u64 a2_1] 26 (0, 0)) (by (with_reducible repeat (first | refine blk_drewN ?_ _ | refine blk_drew ?_ | refine blk_alloc ?_ _)); exact BK198.out)) : gb201 ≠ gb198))
        clear BK197
        clear BK198
        clear HB
        have BK197 := n0_
        have BK198 := n1_
        have HB := n2_
        have BK201 := n3_
        have GW201 := n4_
        have GE201 := n5_
        have NB197_201 := n6_
        have NB201_197 := n7_
        have NB198_201 := n8_
        have NB201_198 := n9_
        clear n0_ n1_ n2_ n3_ n4_ n5_ n6_ n7_ n8_ n9_
        clear hb hbox hg
        refine hK.out _ _ ⟨(blk_cell BK197.out 0).trans rfl, (blk_cell BK197.out 1).trans rfl, (blk_cell BK197.out 2).trans rfl, (blk_cell BK197.out 3).trans rfl⟩ (fun hHeld => ?_)
        clear hK K
        refine norm_ (a' := ?_) ?_ ?_
        rotate_left
        · show Act.put _ (some 8) _ = _
          simp only [Act.put, List.setIfInBounds_toArray, List.set_cons_zero, List.set_cons_succ, i64_w, i32_w]
          rfl
        refine one_ (i := 4) (N := some 7) #[true, true, true, true, true, true, false, false] rfl rfl (one_of HT_.out (by kernel_rfl)) (by decide) (fun K hK => ?_)
        refine box_step ?hg (N := 7) ?hd (cs := #[.int .u64 0, .int .u64 0]) (t := 24) ?hr ?_; (case hd => rfl); (case hg => rfl); (case hr => first | (go_simp; done) | (go_simp; rfl))
        intro gb200 hg w13 hbox hb
        have n0_ := Aside0.mk (blk_below (g := gb197) (o := .cells #[.int .u64 a1_0, .int .u64 a1_1, .int .u64 a1_2, .int .u64 a1_3] 25 (0, 0)) (by (with_reducible repeat (first | refine blk_drewN ?_ _ | refine blk_drew ?_ | refine blk_alloc ?_ _)); exact BK197.out) hb)
        have n1_ := Aside0.mk (blk_below (g := gb198) (o := .cells #[.int .u64 a2_0, .int .u64 a2_1] 26 (0, 0)) (by (with_reducible repeat (first | refine blk_drewN ?_ _ | refine blk_drew ?_ | refine blk_alloc ?_ _)); exact BK198.out) hb)
        have n2_ := Aside0.mk (blk_below (g := gb201) (o := .cells #[.int .u64 0, .int .u64 0] 24 (0, 0)) (by (with_reducible repeat (first | refine blk_drewN ?_ _ | refine blk_drew ?_ | refine blk_alloc ?_ _)); exact BK201.out) hb)
        have n3_ := Aside0.mk (below_step (by repeat (first | (with_reducible first | exact HB.out | apply below_alloc | apply pw_below_drewN | apply below_drew1 | refine below_set ?_ GE197.out | refine below_set ?_ GE198.out | refine below_set ?_ GE201.out) | exact HB.out)) hb)
        have n4_ := Aside0.mk (hbox)
        have n5_ := Aside0.mk ((by rw [hg]; exact (below_size (by repeat (first | (with_reducible first | exact HB.out | apply below_alloc | apply pw_below_drewN | apply below_drew1 | refine below_set ?_ GE197.out | refine below_set ?_ GE198.out | refine below_set ?_ GE201.out) | exact HB.out))) : w.heap.size ≤ gb200))
        have n6_ := Aside0.mk ((by rw [hg]; exact (below_size (by repeat (first | (with_reducible first | exact HB.out | apply below_alloc | apply pw_below_drewN | apply below_drew1 | refine below_set ?_ GE197.out | refine below_set ?_ GE198.out | refine below_set ?_ GE201.out) | exact HB.out))) : w.heap.size ≤ gb200))
        have n7_ := Aside0.mk ((by rw [hg]; exact Nat.ne_of_lt (blk_lt (g := gb197) (o := .cells #[.int .u64 a1_0, .int .u64 a1_1, .int .u64 a1_2, .int .u64 a1_3] 25 (0, 0)) (by (with_reducible repeat (first | refine blk_drewN ?_ _ | refine blk_drew ?_ | refine blk_alloc ?_ _)); exact BK197.out)) : gb197 ≠ gb200))
        have n8_ := Aside0.mk ((by rw [hg]; exact Nat.ne_of_gt (blk_lt (g := gb197) (o := .cells #[.int .u64 a1_0, .int .u64 a1_1, .int .u64 a1_2, .int .u64 a1_3] 25 (0, 0)) (by (with_reducible repeat (first | refine blk_drewN ?_ _ | refine blk_drew ?_ | refine blk_alloc ?_ _)); exact BK197.out)) : gb200 ≠ gb197))
        have n9_ := Aside0.mk ((by rw [hg]; exact Nat.ne_of_lt (blk_lt (g := gb198) (o := .cells #[.int .u64 a2_0, .int .u64 a2_1] 26 (0, 0)) (by (with_reducible repeat (first | refine blk_drewN ?_ _ | refine blk_drew ?_ | refine blk_alloc ?_ _)); exact BK198.out)) : gb198 ≠ gb200))
        have n10_ := Aside0.mk ((by rw [hg]; exact Nat.ne_of_gt (blk_lt (g := gb198) (o := .cells #[.int .u64 a2_0, .int .u64 a2_1] 26 (0, 0)) (by (with_reducible repeat (first | refine blk_drewN ?_ _ | refine blk_drew ?_ | refine blk_alloc ?_ _)); exact BK198.out)) : gb200 ≠ gb198))
        have n11_ := Aside0.mk ((by rw [hg]; exact Nat.ne_of_lt (blk_lt (g := gb201) (o := .cells #[.int .u64 0, .int .u64 0] 24 (0, 0)) (by (with_reducible repeat (first | refine blk_drewN ?_ _ | refine blk_drew ?_ | refine blk_alloc ?_ _)); exact BK201.out)) : gb201 ≠ gb200))
        have n12_ := Aside0.mk ((by rw [hg]; exact Nat.ne_of_gt (blk_lt (g := gb201) (o := .cells #[.int .u64 0, .int .u64 0] 24 (0, 0)) (by (with_reducible repeat (first | refine blk_drewN ?_ _ | refine blk_drew ?_ | refine blk_alloc ?_ _)); exact BK201.out)) : gb200 ≠ gb201))
        clear BK197
        clear BK198
        clear BK201
        clear HB
        have BK197 := n0_
        have BK198 := n1_
        have BK201 := n2_
        have HB := n3_
        have BK200 := n4_
        have GW200 := n5_
        have GE200 := n6_
        have NB197_200 := n7_
        have NB200_197 := n8_
        have NB198_200 := n9_
        have NB200_198 := n10_
        have NB201_200 := n11_
        have NB200_201 := n12_
        clear n0_ n1_ n2_ n3_ n4_ n5_ n6_ n7_ n8_ n9_ n10_ n11_ n12_
        clear hb hbox hg
        refine hK.out _ _ ⟨(blk_cell BK197.out 0).trans rfl, (blk_cell BK197.out 1).trans rfl, (blk_cell BK197.out 2).trans rfl, (blk_cell BK197.out 3).trans rfl⟩ (fun hHeld => ?_)
        clear hK K
        refine norm_ (a' := ?_) ?_ ?_
        rotate_left
        · show Act.put _ (some 7) _ = _
          simp only [Act.put, List.setIfInBounds_toArray, List.set_cons_zero, List.set_cons_succ, i64_w, i32_w]
          rfl
        exact norm_ (by simp only [putAll, Act.put, List.setIfInBounds_toArray, List.set_cons_zero, List.set_cons_succ]) (hCont (gb200, gb201) _ ⟨hHeld, (by (with_reducible repeat (first | refine blk_drewN ?_ _ | refine blk_drew ?_ | refine blk_alloc ?_ _)); exact BK197.out), (by (with_reducible repeat (first | refine blk_drewN ?_ _ | refine blk_drew ?_ | refine blk_alloc ?_ _)); exact BK198.out), (by (with_reducible repeat (first | refine blk_drewN ?_ _ | refine blk_drew ?_ | refine blk_alloc ?_ _)); exact BK200.out), (by (with_reducible repeat (first | refine blk_drewN ?_ _ | refine blk_drew ?_ | refine blk_alloc ?_ _)); exact BK201.out), GW200.out, GE200.out, NB197_200.out, NB200_197.out, NB198_200.out, NB200_198.out, NB201_200.out, NB200_201.out, GW201.out, GE201.out, NB197_201.out, NB201_197.out, NB198_201.out, NB201_198.out, (by repeat (first | (with_reducible first | exact HB.out | apply below_alloc | apply pw_below_drewN | apply below_drew1 | refine below_set ?_ GE197.out | refine below_set ?_ GE198.out | refine below_set ?_ GE201.out | refine below_set ?_ GE200.out) | exact HB.out))⟩)
    rintro ⟨gb200, gb201⟩ w14 ⟨hS_, h0_, h1_, h2_, h3_, h4_, h5_, h6_, h7_, h8_, h9_, h10_, h11_, h12_, h13_, h14_, h15_, h16_, h17_, h18_⟩
    have n0_ : Aside0 (w14.heap[gb197]? = some (.cells #[.int .u64 a1_0, .int .u64 a1_1, .int .u64 a1_2, .int .u64 a1_3] 25 (0, 0))) := ⟨h0_⟩
    have n1_ : Aside0 (w14.heap[gb198]? = some (.cells #[.int .u64 a2_0, .int .u64 a2_1] 26 (0, 0))) := ⟨h1_⟩
    have n2_ : Aside0 (w14.heap[gb200]? = some (.cells #[.int .u64 0, .int .u64 0] 24 (0, 0))) := ⟨h2_⟩
    have n3_ : Aside0 (w14.heap[gb201]? = some (.cells #[.int .u64 0, .int .u64 0] 24 (0, 0))) := ⟨h3_⟩
    have n4_ : Aside0 (w.heap.size ≤ gb200) := ⟨h4_⟩
    have n5_ : Aside0 (w.heap.size ≤ gb200) := ⟨h5_⟩
    have n6_ : Aside0 (gb197 ≠ gb200) := ⟨h6_⟩
    have n7_ : Aside0 (gb200 ≠ gb197) := ⟨h7_⟩
    have n8_ : Aside0 (gb198 ≠ gb200) := ⟨h8_⟩
    have n9_ : Aside0 (gb200 ≠ gb198) := ⟨h9_⟩
    have n10_ : Aside0 (gb201 ≠ gb200) := ⟨h10_⟩
    have n11_ : Aside0 (gb200 ≠ gb201) := ⟨h11_⟩
    have n12_ : Aside0 (w.heap.size ≤ gb201) := ⟨h12_⟩
    have n13_ : Aside0 (w.heap.size ≤ gb201) := ⟨h13_⟩
    have n14_ : Aside0 (gb197 ≠ gb201) := ⟨h14_⟩
    have n15_ : Aside0 (gb201 ≠ gb197) := ⟨h15_⟩
    have n16_ : Aside0 (gb198 ≠ gb201) := ⟨h16_⟩
    have n17_ : Aside0 (gb201 ≠ gb198) := ⟨h17_⟩
    have n18_ : Aside0 (Below w.heap.size w w14) := ⟨h18_⟩
    clear BK197
    clear BK198
    clear HB
    clear h0_ h1_ h2_ h3_ h4_ h5_ h6_ h7_ h8_ h9_ h10_ h11_ h12_ h13_ h14_ h15_ h16_ h17_ h18_
    have BK197 := n0_
    have BK198 := n1_
    have BK200 := n2_
    have BK201 := n3_
    have GW200 := n4_
    have GE200 := n5_
    have NB197_200 := n6_
    have NB200_197 := n7_
    have NB198_200 := n8_
    have NB200_198 := n9_
    have NB201_200 := n10_
    have NB200_201 := n11_
    have GW201 := n12_
    have GE201 := n13_
    have NB197_201 := n14_
    have NB201_197 := n15_
    have NB198_201 := n16_
    have NB201_198 := n17_
    have HB := n18_
    clear n0_ n1_ n2_ n3_ n4_ n5_ n6_ n7_ n8_ n9_ n10_ n11_ n12_ n13_ n14_ n15_ n16_ n17_ n18_
    have hHeld : w14.cell? ⟨gb197, 0, none⟩ = some (.int .u64 a1_0) ∧ w14.cell? ⟨gb197, 1, none⟩ = some (.int .u64 a1_1) ∧ w14.cell? ⟨gb197, 2, none⟩ = some (.int .u64 a1_2) ∧ w14.cell? ⟨gb197, 3, none⟩ = some (.int .u64 a1_3) := hS_
    refine norm_ (a' := ?_) ?_ ?_
    rotate_left
    · simp only [putAll, Act.put, List.setIfInBounds_toArray, List.set_cons_zero, List.set_cons_succ]
      rfl
    refine one_ (i := 6) (N := none) #[true, true, true, true, true, true, true, false] rfl rfl (one_of HT_.out (by kernel_rfl)) (by decide) (fun K hK => ?_)
    have hs15 : w14.cell? ⟨gb200, 0, none⟩ = some (.int .u64 0) := (blk_cell BK200.out 0).trans rfl
    have hfs15 := blk_frozen BK200.out 0
    have hns15_0 := NB197_200.out
    have hns15_1 := NB198_200.out
    have hns15_3 := NB201_200.out
    have hms15_0 := NB200_197.out
    have hms15_1 := NB200_198.out
    have hms15_3 := NB200_201.out
    have hs16 : w14.cell? ⟨gb200, 1, none⟩ = some (.int .u64 0) := (blk_cell BK200.out 1).trans rfl
    have hfs16 := blk_frozen BK200.out 1
    have hns16_0 := NB197_200.out
    have hns16_1 := NB198_200.out
    have hns16_3 := NB201_200.out
    have hms16_0 := NB200_197.out
    have hms16_1 := NB200_198.out
    have hms16_3 := NB200_201.out
    refine skip_ (w1 := ?_) (by rfl) rfl ?_ ?_
    rotate_left
    · go_simp
      rfl
    refine hK.out _ _ ⟨((cell_far (p := ⟨gb200, _, none⟩) NB197_200.out _).trans (((cell_far (p := ⟨gb200, _, none⟩) NB197_200.out _).trans (hHeld.1)))), ((cell_far (p := ⟨gb200, _, none⟩) NB197_200.out _).trans (((cell_far (p := ⟨gb200, _, none⟩) NB197_200.out _).trans (hHeld.2.1)))), ((cell_far (p := ⟨gb200, _, none⟩) NB197_200.out _).trans (((cell_far (p := ⟨gb200, _, none⟩) NB197_200.out _).trans (hHeld.2.2.1)))), ((cell_far (p := ⟨gb200, _, none⟩) NB197_200.out _).trans (((cell_far (p := ⟨gb200, _, none⟩) NB197_200.out _).trans (hHeld.2.2.2))))⟩ (fun hHeld => ?_)
    clear hK K
    refine one_ (i := 7) (N := none) #[true, true, true, true, true, true, true, true] rfl rfl (one_of HT_.out (by kernel_rfl)) (by decide) (fun K hK => ?_)
    have hs17 : w14.cell? ⟨gb201, 0, none⟩ = some (.int .u64 0) := (blk_cell BK201.out 0).trans rfl
    have hfs17 := blk_frozen BK201.out 0
    have hns17_0 := NB197_201.out
    have hns17_1 := NB198_201.out
    have hns17_2 := NB200_201.out
    have hms17_0 := NB201_197.out
    have hms17_1 := NB201_198.out
    have hms17_2 := NB201_200.out
    have hs18 : w14.cell? ⟨gb201, 1, none⟩ = some (.int .u64 0) := (blk_cell BK201.out 1).trans rfl
    have hfs18 := blk_frozen BK201.out 1
    have hns18_0 := NB197_201.out
    have hns18_1 := NB198_201.out
    have hns18_2 := NB200_201.out
    have hms18_0 := NB201_197.out
    have hms18_1 := NB201_198.out
    have hms18_2 := NB201_200.out
    refine skip_ (w1 := ?_) (by rfl) rfl ?_ ?_
    rotate_left
    · go_simp
      rfl
    refine hK.out _ _ ⟨((cell_far (p := ⟨gb201, _, none⟩) NB197_201.out _).trans (((cell_far (p := ⟨gb201, _, none⟩) NB197_201.out _).trans (hHeld.1)))), ((cell_far (p := ⟨gb201, _, none⟩) NB197_201.out _).trans (((cell_far (p := ⟨gb201, _, none⟩) NB197_201.out _).trans (hHeld.2.1)))), ((cell_far (p := ⟨gb201, _, none⟩) NB197_201.out _).trans (((cell_far (p := ⟨gb201, _, none⟩) NB197_201.out _).trans (hHeld.2.2.1)))), ((cell_far (p := ⟨gb201, _, none⟩) NB197_201.out _).trans (((cell_far (p := ⟨gb201, _, none⟩) NB197_201.out _).trans (hHeld.2.2.2))))⟩ (fun hHeld => ?_)
    clear hK K
    refine done_ (done_of HT_.out (by kernel_rfl)) ?_
    try go_wp2
    have n0_ : Aside0 (((((w14.setCell ⟨gb200, 0, none⟩ (.int .u64 a1_0)).setCell ⟨gb200, 1, none⟩ (.int .u64 a1_1)).setCell ⟨gb201, 0, none⟩ (.int .u64 a1_2)).setCell ⟨gb201, 1, none⟩ (.int .u64 a1_3)).heap[gb197]? = some (.cells #[.int .u64 a1_0, .int .u64 a1_1, .int .u64 a1_2, .int .u64 a1_3] 25 (0, 0))) := ⟨by (with_reducible repeat (first | refine blk_drewN ?_ _ | refine blk_drew ?_ | refine blk_alloc ?_ _)); refine blk_far ?_ NB197_201.out _; (with_reducible repeat (first | refine blk_drewN ?_ _ | refine blk_drew ?_ | refine blk_alloc ?_ _)); refine blk_far ?_ NB197_201.out _; (with_reducible repeat (first | refine blk_drewN ?_ _ | refine blk_drew ?_ | refine blk_alloc ?_ _)); refine blk_far ?_ NB197_200.out _; (with_reducible repeat (first | refine blk_drewN ?_ _ | refine blk_drew ?_ | refine blk_alloc ?_ _)); refine blk_far ?_ NB197_200.out _; (with_reducible repeat (first | refine blk_drewN ?_ _ | refine blk_drew ?_ | refine blk_alloc ?_ _)); exact BK197.out⟩
    have n1_ : Aside0 (((((w14.setCell ⟨gb200, 0, none⟩ (.int .u64 a1_0)).setCell ⟨gb200, 1, none⟩ (.int .u64 a1_1)).setCell ⟨gb201, 0, none⟩ (.int .u64 a1_2)).setCell ⟨gb201, 1, none⟩ (.int .u64 a1_3)).heap[gb198]? = some (.cells #[.int .u64 a2_0, .int .u64 a2_1] 26 (0, 0))) := ⟨by (with_reducible repeat (first | refine blk_drewN ?_ _ | refine blk_drew ?_ | refine blk_alloc ?_ _)); refine blk_far ?_ NB198_201.out _; (with_reducible repeat (first | refine blk_drewN ?_ _ | refine blk_drew ?_ | refine blk_alloc ?_ _)); refine blk_far ?_ NB198_201.out _; (with_reducible repeat (first | refine blk_drewN ?_ _ | refine blk_drew ?_ | refine blk_alloc ?_ _)); refine blk_far ?_ NB198_200.out _; (with_reducible repeat (first | refine blk_drewN ?_ _ | refine blk_drew ?_ | refine blk_alloc ?_ _)); refine blk_far ?_ NB198_200.out _; (with_reducible repeat (first | refine blk_drewN ?_ _ | refine blk_drew ?_ | refine blk_alloc ?_ _)); exact BK198.out⟩
    have n2_ : Aside0 (((((w14.setCell ⟨gb200, 0, none⟩ (.int .u64 a1_0)).setCell ⟨gb200, 1, none⟩ (.int .u64 a1_1)).setCell ⟨gb201, 0, none⟩ (.int .u64 a1_2)).setCell ⟨gb201, 1, none⟩ (.int .u64 a1_3)).heap[gb200]? = some (.cells #[.int .u64 a1_0, .int .u64 a1_1] 24 (0, 0))) := ⟨by (with_reducible repeat (first | refine blk_drewN ?_ _ | refine blk_drew ?_ | refine blk_alloc ?_ _)); refine blk_far ?_ NB200_201.out _; (with_reducible repeat (first | refine blk_drewN ?_ _ | refine blk_drew ?_ | refine blk_alloc ?_ _)); refine blk_far ?_ NB200_201.out _; (with_reducible repeat (first | refine blk_drewN ?_ _ | refine blk_drew ?_ | refine blk_alloc ?_ _)); refine blk_put (cs := #[.int .u64 a1_0, .int .u64 0]) ?_ 1 _ rfl; (with_reducible repeat (first | refine blk_drewN ?_ _ | refine blk_drew ?_ | refine blk_alloc ?_ _)); refine blk_put (cs := #[.int .u64 0, .int .u64 0]) ?_ 0 _ rfl; (with_reducible repeat (first | refine blk_drewN ?_ _ | refine blk_drew ?_ | refine blk_alloc ?_ _)); exact BK200.out⟩
    have n3_ : Aside0 (((((w14.setCell ⟨gb200, 0, none⟩ (.int .u64 a1_0)).setCell ⟨gb200, 1, none⟩ (.int .u64 a1_1)).setCell ⟨gb201, 0, none⟩ (.int .u64 a1_2)).setCell ⟨gb201, 1, none⟩ (.int .u64 a1_3)).heap[gb201]? = some (.cells #[.int .u64 a1_2, .int .u64 a1_3] 24 (0, 0))) := ⟨by (with_reducible repeat (first | refine blk_drewN ?_ _ | refine blk_drew ?_ | refine blk_alloc ?_ _)); refine blk_put (cs := #[.int .u64 a1_2, .int .u64 0]) ?_ 1 _ rfl; (with_reducible repeat (first | refine blk_drewN ?_ _ | refine blk_drew ?_ | refine blk_alloc ?_ _)); refine blk_put (cs := #[.int .u64 0, .int .u64 0]) ?_ 0 _ rfl; (with_reducible repeat (first | refine blk_drewN ?_ _ | refine blk_drew ?_ | refine blk_alloc ?_ _)); refine blk_far ?_ NB201_200.out _; (with_reducible repeat (first | refine blk_drewN ?_ _ | refine blk_drew ?_ | refine blk_alloc ?_ _)); refine blk_far ?_ NB201_200.out _; (with_reducible repeat (first | refine blk_drewN ?_ _ | refine blk_drew ?_ | refine blk_alloc ?_ _)); exact BK201.out⟩
    have n4_ : Aside0 (Below w.heap.size w ((((w14.setCell ⟨gb200, 0, none⟩ (.int .u64 a1_0)).setCell ⟨gb200, 1, none⟩ (.int .u64 a1_1)).setCell ⟨gb201, 0, none⟩ (.int .u64 a1_2)).setCell ⟨gb201, 1, none⟩ (.int .u64 a1_3))) := ⟨by repeat (first | (with_reducible first | exact HB.out | apply below_alloc | apply pw_below_drewN | apply below_drew1 | refine below_set ?_ GE197.out | refine below_set ?_ GE198.out | refine below_set ?_ GE200.out | refine below_set ?_ GE201.out) | exact HB.out)⟩
    (try clear BK197)
    (try clear BK198)
    (try clear BK200)
    (try clear BK201)
    (try clear HB)
    generalize ((((w14.setCell ⟨gb200, 0, none⟩ (.int .u64 a1_0)).setCell ⟨gb200, 1, none⟩ (.int .u64 a1_1)).setCell ⟨gb201, 0, none⟩ (.int .u64 a1_2)).setCell ⟨gb201, 1, none⟩ (.int .u64 a1_3)) = w19 at n0_ n1_ n2_ n3_ n4_ ⊢
    have BK197 := n0_
    have BK198 := n1_
    have BK200 := n2_
    have BK201 := n3_
    have HB := n4_
    clear n0_ n1_ n2_ n3_ n4_
    have n0_ := Aside0.mk (blk_drew BK197.out)
    have n1_ := Aside0.mk (blk_drew BK198.out)
    have n2_ := Aside0.mk (blk_drew BK200.out)
    have n3_ := Aside0.mk (blk_drew BK201.out)
    have n4_ := Aside0.mk (below_drew1 HB.out)
    clear BK197
    clear BK198
    clear BK200
    clear BK201
    clear HB
    have BK197 := n0_
    have BK198 := n1_
    have BK200 := n2_
    have BK201 := n3_
    have HB := n4_
    clear n0_ n1_ n2_ n3_ n4_
    refine start_ (n := 10) (S := fun w' => w'.cell? ⟨gb200, 0, none⟩ = some (.int .u64 a1_0) ∧ w'.cell? ⟨gb200, 1, none⟩ = some (.int .u64 a1_1) ∧ w'.cell? ⟨gb198, 0, none⟩ = some (.int .u64 a2_0) ∧ w'.cell? ⟨gb198, 1, none⟩ = some (.int .u64 a2_1) ∧ w'.cell? ⟨gb201, 0, none⟩ = some (.int .u64 a1_2) ∧ w'.cell? ⟨gb201, 1, none⟩ = some (.int .u64 a1_3)) (ds := []) #[false, false, false, false, false, false, false, false, false, false] (by kernel_rfl) rfl rfl ⟨(blk_cell BK200.out 0).trans rfl, (blk_cell BK200.out 1).trans rfl, (blk_cell BK198.out 0).trans rfl, (blk_cell BK198.out 1).trans rfl, (blk_cell BK201.out 0).trans rfl, (blk_cell BK201.out 1).trans rfl⟩ (fun hHeld => ?_); refine with_tabW posternlaw14_TnumChains.tab4 posternlaw14_TnumChains.bits4 (fun HT_ HW_ => ?_)
    generalize w19.drew = w20 at BK197 BK198 BK200 BK201 HB hHeld ⊢
    refine pure_ (i := 1) (N := some 26) (v := ?_) (a' := ?_) #[false, true, false, false, false, false, false, false, false, false] rfl rfl (any_of HT_.out (by kernel_rfl)) (fun _ _ _ h => h) (Or.inl ⟨by rfl, ?_⟩) ?_ ?_
    rotate_left
    · intro w'
      go_simp
      with_reducible rfl
    rotate_left
    · simp only [Act.put, List.setIfInBounds_toArray, List.set_cons_zero, List.set_cons_succ, i64_w, i32_w]
      rfl
    refine pure_ (i := 5) (N := some 30) (v := ?_) (a' := ?_) #[false, true, false, false, false, true, false, false, false, false] rfl rfl (any_of HT_.out (by kernel_rfl)) (fun _ _ _ h => h) (Or.inl ⟨by rfl, ?_⟩) ?_ ?_
    rotate_left
    · intro w'
      go_simp
      with_reducible rfl
    rotate_left
    · simp only [Act.put, List.setIfInBounds_toArray, List.set_cons_zero, List.set_cons_succ, i64_w, i32_w]
      rfl
    refine take_ (i := 0) (N := some 25) (v := ?_) (a' := ?_) #[true, true, false, false, false, true, false, false, false, false] rfl rfl (take_ofW HT_.out HW_.out (by kernel_rfl)) (fun _ _ _ h => h) (Or.inl ⟨by rfl, ?_⟩) hHeld ?_ ?_
    rotate_left
    · rintro w' ⟨s0, s1, s2, s3, s4, s5⟩
      go_simp
      with_reducible rfl
    rotate_left
    · simp only [Act.put, List.setIfInBounds_toArray, List.set_cons_zero, List.set_cons_succ, i64_w, i32_w]
      rfl
    refine take_ (i := 2) (N := some 27) (v := ?_) (a' := ?_) #[true, true, true, false, false, true, false, false, false, false] rfl rfl (take_ofW HT_.out HW_.out (by kernel_rfl)) (fun _ _ _ h => h) (Or.inl ⟨by rfl, ?_⟩) hHeld ?_ ?_
    rotate_left
    · rintro w' ⟨s0, s1, s2, s3, s4, s5⟩
      go_simp
      with_reducible rfl
    rotate_left
    · simp only [Act.put, List.setIfInBounds_toArray, List.set_cons_zero, List.set_cons_succ, i64_w, i32_w]
      rfl
    refine take_ (i := 4) (N := some 29) (v := ?_) (a' := ?_) #[true, true, true, false, true, true, false, false, false, false] rfl rfl (take_ofW HT_.out HW_.out (by kernel_rfl)) (fun _ _ _ h => h) (Or.inl ⟨by rfl, ?_⟩) hHeld ?_ ?_
    rotate_left
    · rintro w' ⟨s0, s1, s2, s3, s4, s5⟩
      go_simp
      with_reducible rfl
    rotate_left
    · simp only [Act.put, List.setIfInBounds_toArray, List.set_cons_zero, List.set_cons_succ, i64_w, i32_w]
      rfl
    refine take_ (i := 6) (N := some 31) (v := ?_) (a' := ?_) #[true, true, true, false, true, true, true, false, false, false] rfl rfl (take_ofW HT_.out HW_.out (by kernel_rfl)) (fun _ _ _ h => h) (Or.inl ⟨by rfl, ?_⟩) hHeld ?_ ?_
    rotate_left
    · rintro w' ⟨s0, s1, s2, s3, s4, s5⟩
      go_simp
      with_reducible rfl
    rotate_left
    · simp only [Act.put, List.setIfInBounds_toArray, List.set_cons_zero, List.set_cons_succ, i64_w, i32_w]
      rfl
    refine one_ (i := 3) (N := some 28) #[true, true, true, true, true, true, true, false, false, false] rfl rfl (one_of HT_.out (by kernel_rfl)) (by decide) (fun K hK => ?_)
    refine goes_ Try.func17 (by kernel_rfl) rfl #[.agg #[.int .u64 a1_0, .int .u64 a1_1], .int .u64 a2_0] (by rfl) rfl rfl (by (try simp only [List.map_toArray, List.map_cons, List.map_nil]); first | done | rfl | (simp only [List.length_drop, List.length_take]; rfl)) ?_
    with_reducible refine (posternref14_Member.calls a1_0 a1_1 a2_0 t202 _ A6.out).mono ?_
    rintro e w21 ⟨rfl, hb⟩
    refine ⟨_, rfl, ?_⟩
    have n0_ := Aside0.mk (blk_below (g := gb197) (o := .cells #[.int .u64 a1_0, .int .u64 a1_1, .int .u64 a1_2, .int .u64 a1_3] 25 (0, 0)) (by (with_reducible repeat (first | refine blk_drewN ?_ _ | refine blk_drew ?_ | refine blk_alloc ?_ _)); exact BK197.out) hb)
    have n1_ := Aside0.mk (blk_below (g := gb198) (o := .cells #[.int .u64 a2_0, .int .u64 a2_1] 26 (0, 0)) (by (with_reducible repeat (first | refine blk_drewN ?_ _ | refine blk_drew ?_ | refine blk_alloc ?_ _)); exact BK198.out) hb)
    have n2_ := Aside0.mk (blk_below (g := gb200) (o := .cells #[.int .u64 a1_0, .int .u64 a1_1] 24 (0, 0)) (by (with_reducible repeat (first | refine blk_drewN ?_ _ | refine blk_drew ?_ | refine blk_alloc ?_ _)); exact BK200.out) hb)
    have n3_ := Aside0.mk (blk_below (g := gb201) (o := .cells #[.int .u64 a1_2, .int .u64 a1_3] 24 (0, 0)) (by (with_reducible repeat (first | refine blk_drewN ?_ _ | refine blk_drew ?_ | refine blk_alloc ?_ _)); exact BK201.out) hb)
    have n4_ := Aside0.mk (below_step (by repeat (first | (with_reducible first | exact HB.out | apply below_alloc | apply pw_below_drewN | apply below_drew1 | refine below_set ?_ GE197.out | refine below_set ?_ GE198.out | refine below_set ?_ GE200.out | refine below_set ?_ GE201.out) | exact HB.out)) hb)
    clear BK197
    clear BK198
    clear BK200
    clear BK201
    clear HB
    have BK197 := n0_
    have BK198 := n1_
    have BK200 := n2_
    have BK201 := n3_
    have HB := n4_
    clear n0_ n1_ n2_ n3_ n4_
    (try clear hb)
    (try clear hb2)
    (try clear hk)
    (try clear hi)
    refine hK.out _ _ ⟨(blk_cell BK200.out 0).trans rfl, (blk_cell BK200.out 1).trans rfl, (blk_cell BK198.out 0).trans rfl, (blk_cell BK198.out 1).trans rfl, (blk_cell BK201.out 0).trans rfl, (blk_cell BK201.out 1).trans rfl⟩ (fun hHeld => ?_)
    clear hK K
    refine norm_ (a' := ?_) ?_ ?_
    rotate_left
    · show Act.put _ (some 28) _ = _
      simp only [Act.put, List.setIfInBounds_toArray, List.set_cons_zero, List.set_cons_succ, i64_w, i32_w]
      rfl
    refine one_ (i := 7) (N := some 32) #[true, true, true, true, true, true, true, true, false, false] rfl rfl (one_of HT_.out (by kernel_rfl)) (by decide) (fun K hK => ?_)
    refine goes_ Try.func17 (by kernel_rfl) rfl #[.agg #[.int .u64 a1_2, .int .u64 a1_3], .int .u64 a2_1] (by rfl) rfl rfl (by (try simp only [List.map_toArray, List.map_cons, List.map_nil]); first | done | rfl | (simp only [List.length_drop, List.length_take]; rfl)) ?_
    with_reducible refine (posternref14_Member.calls a1_2 a1_3 a2_1 t203 _ A7.out).mono ?_
    rintro e w22 ⟨rfl, hb⟩
    refine ⟨_, rfl, ?_⟩
    have n0_ := Aside0.mk (blk_below (g := gb197) (o := .cells #[.int .u64 a1_0, .int .u64 a1_1, .int .u64 a1_2, .int .u64 a1_3] 25 (0, 0)) (by (with_reducible repeat (first | refine blk_drewN ?_ _ | refine blk_drew ?_ | refine blk_alloc ?_ _)); exact BK197.out) hb)
    have n1_ := Aside0.mk (blk_below (g := gb198) (o := .cells #[.int .u64 a2_0, .int .u64 a2_1] 26 (0, 0)) (by (with_reducible repeat (first | refine blk_drewN ?_ _ | refine blk_drew ?_ | refine blk_alloc ?_ _)); exact BK198.out) hb)
    have n2_ := Aside0.mk (blk_below (g := gb200) (o := .cells #[.int .u64 a1_0, .int .u64 a1_1] 24 (0, 0)) (by (with_reducible repeat (first | refine blk_drewN ?_ _ | refine blk_drew ?_ | refine blk_alloc ?_ _)); exact BK200.out) hb)
    have n3_ := Aside0.mk (blk_below (g := gb201) (o := .cells #[.int .u64 a1_2, .int .u64 a1_3] 24 (0, 0)) (by (with_reducible repeat (first | refine blk_drewN ?_ _ | refine blk_drew ?_ | refine blk_alloc ?_ _)); exact BK201.out) hb)
    have n4_ := Aside0.mk (below_step (by repeat (first | (with_reducible first | exact HB.out | apply below_alloc | apply pw_below_drewN | apply below_drew1 | refine below_set ?_ GE197.out | refine below_set ?_ GE198.out | refine below_set ?_ GE200.out | refine below_set ?_ GE201.out) | exact HB.out)) hb)
    clear BK197
    clear BK198
    clear BK200
    clear BK201
    clear HB
    have BK197 := n0_
    have BK198 := n1_
    have BK200 := n2_
    have BK201 := n3_
    have HB := n4_
    clear n0_ n1_ n2_ n3_ n4_
    (try clear hb)
    (try clear hb2)
    (try clear hk)
    (try clear hi)
    refine hK.out _ _ ⟨(blk_cell BK200.out 0).trans rfl, (blk_cell BK200.out 1).trans rfl, (blk_cell BK198.out 0).trans rfl, (blk_cell BK198.out 1).trans rfl, (blk_cell BK201.out 0).trans rfl, (blk_cell BK201.out 1).trans rfl⟩ (fun hHeld => ?_)
    clear hK K
    refine norm_ (a' := ?_) ?_ ?_
    rotate_left
    · show Act.put _ (some 32) _ = _
      simp only [Act.put, List.setIfInBounds_toArray, List.set_cons_zero, List.set_cons_succ, i64_w, i32_w]
      rfl
    refine pure_ (i := 8) (N := some 9) (v := ?_) (a' := ?_) #[true, true, true, true, true, true, true, true, true, false] rfl rfl (any_of HT_.out (by kernel_rfl)) (fun _ _ _ h => h) (Or.inl ⟨by rfl, ?_⟩) ?_ ?_
    rotate_left
    · intro w'
      go_simp
      with_reducible rfl
    rotate_left
    · simp only [Act.put, List.setIfInBounds_toArray, List.set_cons_zero, List.set_cons_succ, i64_w, i32_w]
      rfl
    refine pure_ (i := 9) (N := some 10) (v := ?_) (a' := ?_) #[true, true, true, true, true, true, true, true, true, true] rfl rfl (any_of HT_.out (by kernel_rfl)) (fun _ _ _ h => h) (Or.inl ⟨by rfl, ?_⟩) ?_ ?_
    rotate_left
    · intro w'
      go_simp
      with_reducible rfl
    rotate_left
    · simp only [Act.put, List.setIfInBounds_toArray, List.set_cons_zero, List.set_cons_succ, i64_w, i32_w]
      rfl
    refine done_ (done_of HT_.out (by kernel_rfl)) ?_
    try go_wp2
    go_loopg [9, 10, 35] k (fun kq v9 v10 v35 w' => ∃ (x9_1 : Int) (x10_1 : Int) (x35_1 : Int) (x201000_1 : Int) (x201001_1 : Int) (x202000_1 : Int) (x202001_1 : Int), v9 = .int .u64 x9_1 ∧ v10 = .int .u64 x10_1 ∧ v35 = .int .i64 x35_1 ∧ Aside0 (posternlaw14_TnumChains.l0 kq x9_1 x10_1 l0 (l0.length : Int) x35_1 x201000_1 x201001_1 x202000_1 x202001_1 = some r) ∧ Aside0 (kq ≤ k) ∧ Aside0 (w'.heap[gb197]? = some (.cells #[.int .u64 a1_0, .int .u64 a1_1, .int .u64 a1_2, .int .u64 a1_3] 25 (0, 0))) ∧ Aside0 (w'.heap[gb198]? = some (.cells #[.int .u64 a2_0, .int .u64 a2_1] 26 (0, 0))) ∧ Aside0 (w'.heap[gb200]? = some (.cells #[.int .u64 x201000_1, .int .u64 x201001_1] 24 (0, 0))) ∧ Aside0 (w'.heap[gb201]? = some (.cells #[.int .u64 x202000_1, .int .u64 x202001_1] 24 (0, 0))) ∧ Aside0 (Below w.heap.size w w'))
    case atStart => exact ⟨(t202), (t203), (0), (a1_0), (a1_1), (a1_2), (a1_3), (by first | rfl | (simp; done) | (simp [*]; done)), (by first | rfl | (simp; done) | (simp [*]; done)), (by first | rfl | (simp; done) | (simp [*]; done)), H', ⟨Nat.le_refl _⟩, ⟨by (with_reducible repeat (first | refine blk_drewN ?_ _ | refine blk_drew ?_ | refine blk_alloc ?_ _)); exact BK197.out⟩, ⟨by (with_reducible repeat (first | refine blk_drewN ?_ _ | refine blk_drew ?_ | refine blk_alloc ?_ _)); exact BK198.out⟩, ⟨by (with_reducible repeat (first | refine blk_drewN ?_ _ | refine blk_drew ?_ | refine blk_alloc ?_ _)); exact BK200.out⟩, ⟨by (with_reducible repeat (first | refine blk_drewN ?_ _ | refine blk_drew ?_ | refine blk_alloc ?_ _)); exact BK201.out⟩, ⟨by repeat (first | (with_reducible first | exact HB.out | apply below_alloc | apply pw_below_drewN | apply below_drew1 | refine below_set ?_ GE197.out | refine below_set ?_ GE198.out | refine below_set ?_ GE200.out | refine below_set ?_ GE201.out) | exact HB.out)⟩⟩
    case round =>
      clear H'
      try clear c1
      try clear p2
      try clear c5
      try clear c6
      try clear c13
      try clear c17
      obtain ⟨x9_1, x10_1, x35_1, x201000_1, x201001_1, x202000_1, x202001_1, rfl, rfl, rfl, HA, HK1, BK197, BK198, BK200, BK201, HB⟩ := hrel
      cases gk with
      | zero => exact absurd HA.out (by simp [posternlaw14_TnumChains.l0])
      | succ k1 =>
        have H := HA.out
        clear HA
        simp only [posternlaw14_TnumChains.l0] at H
        by_cases c23 : x35_1 < (l0.length : Int)
        · rw [if_pos c23] at H
          have c23b0 : decide (x35_1 < (l0.length : Int)) = true := decide_eq_true c23
          clear c23
          by_cases c24 : 0 ≤ x35_1
          · rw [if_pos c24] at H
            have c24b0 : decide (0 ≤ x35_1) = true := decide_eq_true c24
            clear c24
            by_cases c25 : x35_1 < (l0.length : Int)
            · rw [if_pos c25] at H
              have c25b0 : decide (x35_1 < (l0.length : Int)) = true := decide_eq_true c25
              clear c25
              by_cases c26 : x35_1 ≥ 20
              · rw [if_pos c26] at H
                have c26b0 : decide (20 ≤ x35_1) = true := decide_eq_true c26
                clear c26
                replace H := Option.bind_eq_some_iff.mp H
                obtain ⟨t207, A270, H⟩ := H
                replace H : (if t207 = true then ((tnum_Has.f x202000_1 x202001_1 x10_1).bind fun t208 => (some t208)) else (some false)) = some r := H
                have A27 := Aside0.mk A270
                clear A270
                by_cases c28 : t207 = true
                · subst c28
                  have H1 : ((tnum_Has.f x202000_1 x202001_1 x10_1).bind fun t208 => (some t208)) = some r := by rw [if_pos rfl] at H; exact H
                  clear H
                  have H := H1
                  clear H1
                  replace H := Option.bind_eq_some_iff.mp H
                  obtain ⟨t208, A290, H⟩ := H
                  replace H : (some t208) = some r := H
                  have A29 := Aside0.mk A290
                  clear A290
                  obtain rfl := Option.some.inj H
                  have p206 : 0 ≤ (x35_1 : Int) := of_decide_eq_true (by first | (with_reducible assumption) | assumption)
                  have q206 : x35_1 < (l0.length : Int) := of_decide_eq_true (by first | (with_reducible assumption) | assumption)
                  obtain ⟨ad206, e206, hx206_0⟩ := Kd.at_int HR0.out x35_1 p206 q206
                  cases e206
                  replace hx206_0 := (HB.out.cell (World.block_lt_of_cell? w _ hx206_0)).trans hx206_0
                  replace p206 := eq_true p206
                  replace q206 := eq_true q206
                  have hnb30 := NB200_197.out
                  have hnc30 := NB197_200.out
                  have hnb31 := NB200_198.out
                  have hnc31 := NB198_200.out
                  have hnb32 := NB200_201.out
                  have hnc32 := NB201_200.out
                  have hcz33_0 : wr.cell? ⟨gb200, 0, none⟩ = some (.int .u64 x201000_1) := (blk_cell BK200.out 0).trans rfl
                  have hcz33_1 : wr.cell? ⟨gb200, 1, none⟩ = some (.int .u64 x201001_1) := (blk_cell BK200.out 1).trans rfl
                  have hfz33_0 := blk_frozen BK200.out 0
                  have hfz33_1 := blk_frozen BK200.out 1
                  go_wp2_with (first | ((with_reducible refine gate_callee (f := 19) rfl ?_); refine goesL_ (some 84) rfl rfl Try.func19 (by kernel_rfl) rfl #[.agg #[.int .u64 x201000_1, .int .u64 x201001_1], .int .u64 x9_1] rfl (by (try simp only [List.map_toArray, List.map_cons, List.map_nil]); first | done | rfl | (simp only [List.length_drop, List.length_take]; rfl)) ?_; (with_reducible refine (tnum_Has.calls x201000_1 x201001_1 x9_1 true _ A27.out).mono ?_); rintro e w34 ⟨rfl, hb⟩; refine ⟨_, rfl, ?_⟩; have n0_ := Aside0.mk (blk_below (g := gb197) (o := .cells #[.int .u64 a1_0, .int .u64 a1_1, .int .u64 a1_2, .int .u64 a1_3] 25 (0, 0)) (by (with_reducible repeat (first | refine blk_drewN ?_ _ | refine blk_drew ?_ | refine blk_alloc ?_ _)); exact BK197.out) hb); have n1_ := Aside0.mk (blk_below (g := gb198) (o := .cells #[.int .u64 a2_0, .int .u64 a2_1] 26 (0, 0)) (by (with_reducible repeat (first | refine blk_drewN ?_ _ | refine blk_drew ?_ | refine blk_alloc ?_ _)); exact BK198.out) hb); have n2_ := Aside0.mk (blk_below (g := gb200) (o := .cells #[.int .u64 x201000_1, .int .u64 x201001_1] 24 (0, 0)) (by (with_reducible repeat (first | refine blk_drewN ?_ _ | refine blk_drew ?_ | refine blk_alloc ?_ _)); exact BK200.out) hb); have n3_ := Aside0.mk (blk_below (g := gb201) (o := .cells #[.int .u64 x202000_1, .int .u64 x202001_1] 24 (0, 0)) (by (with_reducible repeat (first | refine blk_drewN ?_ _ | refine blk_drew ?_ | refine blk_alloc ?_ _)); exact BK201.out) hb); have n4_ := Aside0.mk (below_step (by repeat (first | (with_reducible first | exact HB.out | apply below_alloc | apply pw_below_drewN | apply below_drew1 | refine below_set ?_ GE197.out | refine below_set ?_ GE198.out | refine below_set ?_ GE200.out | refine below_set ?_ GE201.out) | exact HB.out)) hb); clear BK197; clear BK198; clear BK200; clear BK201; clear HB; have BK197 := n0_; have BK198 := n1_; have BK200 := n2_; have BK201 := n3_; have HB := n4_; clear n0_ n1_ n2_ n3_ n4_; (try clear hb); (try clear hb2); (try clear hk); (try clear hi); have hnb35 := NB201_197.out; have hnc35 := NB197_201.out; have hnb36 := NB201_198.out; have hnc36 := NB198_201.out; have hcz37_0 : w34.cell? ⟨gb201, 0, none⟩ = some (.int .u64 x202000_1) := (blk_cell BK201.out 0).trans rfl; have hcz37_1 : w34.cell? ⟨gb201, 1, none⟩ = some (.int .u64 x202001_1) := (blk_cell BK201.out 1).trans rfl; have hfz37_0 := blk_frozen BK201.out 0; have hfz37_1 := blk_frozen BK201.out 1) | (go_at_call 19; (with_reducible refine (tnum_Has.calls x202000_1 x202001_1 x10_1 t208 _ A29.out).mono ?_); rintro e w38 ⟨rfl, hb⟩; have n0_ := Aside0.mk (blk_below (g := gb197) (o := .cells #[.int .u64 a1_0, .int .u64 a1_1, .int .u64 a1_2, .int .u64 a1_3] 25 (0, 0)) (by (with_reducible repeat (first | refine blk_drewN ?_ _ | refine blk_drew ?_ | refine blk_alloc ?_ _)); exact BK197.out) hb); have n1_ := Aside0.mk (blk_below (g := gb198) (o := .cells #[.int .u64 a2_0, .int .u64 a2_1] 26 (0, 0)) (by (with_reducible repeat (first | refine blk_drewN ?_ _ | refine blk_drew ?_ | refine blk_alloc ?_ _)); exact BK198.out) hb); have n2_ := Aside0.mk (blk_below (g := gb200) (o := .cells #[.int .u64 x201000_1, .int .u64 x201001_1] 24 (0, 0)) (by (with_reducible repeat (first | refine blk_drewN ?_ _ | refine blk_drew ?_ | refine blk_alloc ?_ _)); exact BK200.out) hb); have n3_ := Aside0.mk (blk_below (g := gb201) (o := .cells #[.int .u64 x202000_1, .int .u64 x202001_1] 24 (0, 0)) (by (with_reducible repeat (first | refine blk_drewN ?_ _ | refine blk_drew ?_ | refine blk_alloc ?_ _)); exact BK201.out) hb); have n4_ := Aside0.mk (below_step (by repeat (first | (with_reducible first | exact HB.out | apply below_alloc | apply pw_below_drewN | apply below_drew1 | refine below_set ?_ GE197.out | refine below_set ?_ GE198.out | refine below_set ?_ GE200.out | refine below_set ?_ GE201.out) | exact HB.out)) hb); clear BK197; clear BK198; clear BK200; clear BK201; clear HB; have BK197 := n0_; have BK198 := n1_; have BK200 := n2_; have BK201 := n3_; have HB := n4_; clear n0_ n1_ n2_ n3_ n4_; (try clear hb); (try clear hb2); (try clear hk); (try clear hi)))
                  go_ret
                  exact ⟨by first | rfl | (simp [errW_none, errW_some] <;> rfl) | (simp [*, errW_none, errW_some] <;> rfl), by repeat (first | (with_reducible first | exact HB.out | apply below_alloc | apply pw_below_drewN | apply below_drew1 | refine below_set ?_ GE197.out | refine below_set ?_ GE198.out | refine below_set ?_ GE200.out | refine below_set ?_ GE201.out) | exact HB.out)⟩
                · replace c28 := Bool.eq_false_iff.mpr c28
                  subst c28
                  have H1 : (some false) = some r := by rw [if_neg (show ¬ (false = true) by decide)] at H; exact H
                  clear H
                  have H := H1
                  clear H1
                  exact absurd (H.trans (congrArg some hr_.out)) (by simp)
              · rw [if_neg c26] at H
                have c26b0 : decide (20 ≤ x35_1) = false := decide_eq_false c26
                clear c26
                replace H := Option.bind_eq_some_iff.mp H
                obtain ⟨⟨t209, t210, t211⟩, A390, H⟩ := H
                replace H : ((posternlaw14_size.f ((Int.tmod (IntKind.u64.wrap (Int.tdiv (IntKind.u64.wrap (rd l0 x35_1)) 13)) 2) == 0)).bind fun t213 => ((posternref05_Do.f k1 (wrap64 ((wrap64 (Int.tmod (IntKind.u64.wrap (rd l0 x35_1)) 13)) * 16)) t213 x9_1 x10_1).bind fun bt214 => (if t211 = 0 then ((tnum_Has.f t209 t210 bt214.1).bind fun t216 => (if t216 = true then (posternlaw14_TnumChains.l0 k1 x10_1 bt214.1 l0 (l0.length : Int) (wrap64 (x35_1 + 1)) x202000_1 x202001_1 t209 t210) else (some false))) else (some false)))) = some r := H
                have A39 := Aside0.mk A390
                clear A390
                replace H := Option.bind_eq_some_iff.mp H
                obtain ⟨t213, A400, H⟩ := H
                replace H : ((posternref05_Do.f k1 (wrap64 ((wrap64 (Int.tmod (IntKind.u64.wrap (rd l0 x35_1)) 13)) * 16)) t213 x9_1 x10_1).bind fun bt214 => (if t211 = 0 then ((tnum_Has.f t209 t210 bt214.1).bind fun t216 => (if t216 = true then (posternlaw14_TnumChains.l0 k1 x10_1 bt214.1 l0 (l0.length : Int) (wrap64 (x35_1 + 1)) x202000_1 x202001_1 t209 t210) else (some false))) else (some false))) = some r := H
                have A40 := Aside0.mk A400
                clear A400
                replace H := Option.bind_eq_some_iff.mp H
                obtain ⟨⟨t214, t215⟩, A410, H⟩ := H
                replace H : (if t211 = 0 then ((tnum_Has.f t209 t210 t214).bind fun t216 => (if t216 = true then (posternlaw14_TnumChains.l0 k1 x10_1 t214 l0 (l0.length : Int) (wrap64 (x35_1 + 1)) x202000_1 x202001_1 t209 t210) else (some false))) else (some false)) = some r := H
                have A41 := Aside0.mk A410
                clear A410
                by_cases c42 : t211 = 0
                · rw [if_pos c42] at H
                  have c42b0 : (t211 == 0) = true := beq_iff_eq.mpr c42
                  have c42b1 : (t211 != 0) = false := bne_eq_false_iff_eq.mpr c42
                  clear c42
                  replace H := Option.bind_eq_some_iff.mp H
                  obtain ⟨t216, A430, H⟩ := H
                  replace H : (if t216 = true then (posternlaw14_TnumChains.l0 k1 x10_1 t214 l0 (l0.length : Int) (wrap64 (x35_1 + 1)) x202000_1 x202001_1 t209 t210) else (some false)) = some r := H
                  have A43 := Aside0.mk A430
                  clear A430
                  by_cases c44 : t216 = true
                  · subst c44
                    have H1 : (posternlaw14_TnumChains.l0 k1 x10_1 t214 l0 (l0.length : Int) (wrap64 (x35_1 + 1)) x202000_1 x202001_1 t209 t210) = some r := by rw [if_pos rfl] at H; exact H
                    clear H
                    have H := H1
                    clear H1
                    have H' := Aside0.mk H
                    clear H
                    have p206 : 0 ≤ (x35_1 : Int) := of_decide_eq_true (by first | (with_reducible assumption) | assumption)
                    have q206 : x35_1 < (l0.length : Int) := of_decide_eq_true (by first | (with_reducible assumption) | assumption)
                    obtain ⟨ad206, e206, hx206_0⟩ := Kd.at_int HR0.out x35_1 p206 q206
                    cases e206
                    replace hx206_0 := (HB.out.cell (World.block_lt_of_cell? w _ hx206_0)).trans hx206_0
                    replace p206 := eq_true p206
                    replace q206 := eq_true q206
                    have hnb45 := NB200_197.out
                    have hnc45 := NB197_200.out
                    have hnb46 := NB200_198.out
                    have hnc46 := NB198_200.out
                    have hnb47 := NB200_201.out
                    have hnc47 := NB201_200.out
                    have hcz48_0 : wr.cell? ⟨gb200, 0, none⟩ = some (.int .u64 x201000_1) := (blk_cell BK200.out 0).trans rfl
                    have hcz48_1 : wr.cell? ⟨gb200, 1, none⟩ = some (.int .u64 x201001_1) := (blk_cell BK200.out 1).trans rfl
                    have hfz48_0 := blk_frozen BK200.out 0
                    have hfz48_1 := blk_frozen BK200.out 1
                    have hnb49 := NB201_197.out
                    have hnc49 := NB197_201.out
                    have hnb50 := NB201_198.out
                    have hnc50 := NB198_201.out
                    have hcz51_0 : wr.cell? ⟨gb201, 0, none⟩ = some (.int .u64 x202000_1) := (blk_cell BK201.out 0).trans rfl
                    have hcz51_1 : wr.cell? ⟨gb201, 1, none⟩ = some (.int .u64 x202001_1) := (blk_cell BK201.out 1).trans rfl
                    have hfz51_0 := blk_frozen BK201.out 0
                    have hfz51_1 := blk_frozen BK201.out 1
                    try go_wp2_with (first | ((with_reducible refine gate_callee (f := 14) rfl ?_); refine goesL_ (some 57) rfl rfl Try.func14 (by kernel_rfl) rfl #[.int .i64 (wrap64 ((wrap64 (Int.tmod (IntKind.u64.wrap (rd l0 x35_1)) 13)) * 16)), .bool ((Int.tmod (IntKind.u64.wrap (Int.tdiv (IntKind.u64.wrap (rd l0 x35_1)) 13)) 2) == 0), .agg #[.int .u64 x201000_1, .int .u64 x201001_1], .agg #[.int .u64 x202000_1, .int .u64 x202001_1]] rfl (by (try simp only [List.map_toArray, List.map_cons, List.map_nil]); first | done | rfl | (simp only [List.length_drop, List.length_take]; rfl)) ?_; (with_reducible refine (tnum_Do.calls k1 (wrap64 ((wrap64 (Int.tmod (IntKind.u64.wrap (rd l0 x35_1)) 13)) * 16)) ((Int.tmod (IntKind.u64.wrap (Int.tdiv (IntKind.u64.wrap (rd l0 x35_1)) 13)) 2) == 0) x201000_1 x201001_1 x202000_1 x202001_1 t209 t210 t211 _ A39.out).mono ?_); rintro e w52 ⟨rfl, hb⟩; refine ⟨_, rfl, ?_⟩; have n0_ := Aside0.mk (blk_below (g := gb197) (o := .cells #[.int .u64 a1_0, .int .u64 a1_1, .int .u64 a1_2, .int .u64 a1_3] 25 (0, 0)) (by (with_reducible repeat (first | refine blk_drewN ?_ _ | refine blk_drew ?_ | refine blk_alloc ?_ _)); exact BK197.out) hb); have n1_ := Aside0.mk (blk_below (g := gb198) (o := .cells #[.int .u64 a2_0, .int .u64 a2_1] 26 (0, 0)) (by (with_reducible repeat (first | refine blk_drewN ?_ _ | refine blk_drew ?_ | refine blk_alloc ?_ _)); exact BK198.out) hb); have n2_ := Aside0.mk (blk_below (g := gb200) (o := .cells #[.int .u64 x201000_1, .int .u64 x201001_1] 24 (0, 0)) (by (with_reducible repeat (first | refine blk_drewN ?_ _ | refine blk_drew ?_ | refine blk_alloc ?_ _)); exact BK200.out) hb); have n3_ := Aside0.mk (blk_below (g := gb201) (o := .cells #[.int .u64 x202000_1, .int .u64 x202001_1] 24 (0, 0)) (by (with_reducible repeat (first | refine blk_drewN ?_ _ | refine blk_drew ?_ | refine blk_alloc ?_ _)); exact BK201.out) hb); have n4_ := Aside0.mk (below_step (by repeat (first | (with_reducible first | exact HB.out | apply below_alloc | apply pw_below_drewN | apply below_drew1 | refine below_set ?_ GE197.out | refine below_set ?_ GE198.out | refine below_set ?_ GE200.out | refine below_set ?_ GE201.out) | exact HB.out)) hb); clear BK197; clear BK198; clear BK200; clear BK201; clear HB; have BK197 := n0_; have BK198 := n1_; have BK200 := n2_; have BK201 := n3_; have HB := n4_; clear n0_ n1_ n2_ n3_ n4_; (try clear hb); (try clear hb2); (try clear hk); (try clear hi)) | ((with_reducible refine gate_dst (N := 15) rfl ?_); refine box_event ?hg (N := 15) ?hd (cs := #[.int .u64 0, .int .u64 0]) (t := 24) ?hr ?_; (case hd => rfl); (case hg => rfl); (case hr => first | (go_simp; done) | (go_simp; rfl)); intro gb212 hg w53 hbox hb; have n0_ := Aside0.mk (blk_below (g := gb197) (o := .cells #[.int .u64 a1_0, .int .u64 a1_1, .int .u64 a1_2, .int .u64 a1_3] 25 (0, 0)) (by (with_reducible repeat (first | refine blk_drewN ?_ _ | refine blk_drew ?_ | refine blk_alloc ?_ _)); exact BK197.out) hb); have n1_ := Aside0.mk (blk_below (g := gb198) (o := .cells #[.int .u64 a2_0, .int .u64 a2_1] 26 (0, 0)) (by (with_reducible repeat (first | refine blk_drewN ?_ _ | refine blk_drew ?_ | refine blk_alloc ?_ _)); exact BK198.out) hb); have n2_ := Aside0.mk (blk_below (g := gb200) (o := .cells #[.int .u64 x201000_1, .int .u64 x201001_1] 24 (0, 0)) (by (with_reducible repeat (first | refine blk_drewN ?_ _ | refine blk_drew ?_ | refine blk_alloc ?_ _)); exact BK200.out) hb); have n3_ := Aside0.mk (blk_below (g := gb201) (o := .cells #[.int .u64 x202000_1, .int .u64 x202001_1] 24 (0, 0)) (by (with_reducible repeat (first | refine blk_drewN ?_ _ | refine blk_drew ?_ | refine blk_alloc ?_ _)); exact BK201.out) hb); have n4_ := Aside0.mk (below_step (by repeat (first | (with_reducible first | exact HB.out | apply below_alloc | apply pw_below_drewN | apply below_drew1 | refine below_set ?_ GE197.out | refine below_set ?_ GE198.out | refine below_set ?_ GE200.out | refine below_set ?_ GE201.out) | exact HB.out)) hb); have n5_ := Aside0.mk (hbox); have n6_ := Aside0.mk ((by rw [hg]; exact (below_size (by repeat (first | (with_reducible first | exact HB.out | apply below_alloc | apply pw_below_drewN | apply below_drew1 | refine below_set ?_ GE197.out | refine below_set ?_ GE198.out | refine below_set ?_ GE200.out | refine below_set ?_ GE201.out) | exact HB.out))) : w.heap.size ≤ gb212)); have n7_ := Aside0.mk ((by rw [hg]; exact (below_size (by repeat (first | (with_reducible first | exact HB.out | apply below_alloc | apply pw_below_drewN | apply below_drew1 | refine below_set ?_ GE197.out | refine below_set ?_ GE198.out | refine below_set ?_ GE200.out | refine below_set ?_ GE201.out) | exact HB.out))) : w.heap.size ≤ gb212)); have n8_ := Aside0.mk ((by rw [hg]; exact Nat.ne_of_lt (blk_lt (g := gb197) (o := .cells #[.int .u64 a1_0, .int .u64 a1_1, .int .u64 a1_2, .int .u64 a1_3] 25 (0, 0)) (by (with_reducible repeat (first | refine blk_drewN ?_ _ | refine blk_drew ?_ | refine blk_alloc ?_ _)); exact BK197.out)) : gb197 ≠ gb212)); have n9_ := Aside0.mk ((by rw [hg]; exact Nat.ne_of_gt (blk_lt (g := gb197) (o := .cells #[.int .u64 a1_0, .int .u64 a1_1, .int .u64 a1_2, .int .u64 a1_3] 25 (0, 0)) (by (with_reducible repeat (first | refine blk_drewN ?_ _ | refine blk_drew ?_ | refine blk_alloc ?_ _)); exact BK197.out)) : gb212 ≠ gb197)); have n10_ := Aside0.mk ((by rw [hg]; exact Nat.ne_of_lt (blk_lt (g := gb198) (o := .cells #[.int .u64 a2_0, .int .u64 a2_1] 26 (0, 0)) (by (with_reducible repeat (first | refine blk_drewN ?_ _ | refine blk_drew ?_ | refine blk_alloc ?_ _)); exact BK198.out)) : gb198 ≠ gb212)); have n11_ := Aside0.mk ((by rw [hg]; exact Nat.ne_of_gt (blk_lt (g := gb198) (o := .cells #[.int .u64 a2_0, .int .u64 a2_1] 26 (0, 0)) (by (with_reducible repeat (first | refine blk_drewN ?_ _ | refine blk_drew ?_ | refine blk_alloc ?_ _)); exact BK198.out)) : gb212 ≠ gb198)); have n12_ := Aside0.mk ((by rw [hg]; exact Nat.ne_of_lt (blk_lt (g := gb200) (o := .cells #[.int .u64 x201000_1, .int .u64 x201001_1] 24 (0, 0)) (by (with_reducible repeat (first | refine blk_drewN ?_ _ | refine blk_drew ?_ | refine blk_alloc ?_ _)); exact BK200.out)) : gb200 ≠ gb212)); have n13_ := Aside0.mk ((by rw [hg]; exact Nat.ne_of_gt (blk_lt (g := gb200) (o := .cells #[.int .u64 x201000_1, .int .u64 x201001_1] 24 (0, 0)) (by (with_reducible repeat (first | refine blk_drewN ?_ _ | refine blk_drew ?_ | refine blk_alloc ?_ _)); exact BK200.out)) : gb212 ≠ gb200)); have n14_ := Aside0.mk ((by rw [hg]; exact Nat.ne_of_lt (blk_lt (g := gb201) (o := .cells #[.int .u64 x202000_1, .int .u64 x202001_1] 24 (0, 0)) (by (with_reducible repeat (first | refine blk_drewN ?_ _ | refine blk_drew ?_ | refine blk_alloc ?_ _)); exact BK201.out)) : gb201 ≠ gb212)); have n15_ := Aside0.mk ((by rw [hg]; exact Nat.ne_of_gt (blk_lt (g := gb201) (o := .cells #[.int .u64 x202000_1, .int .u64 x202001_1] 24 (0, 0)) (by (with_reducible repeat (first | refine blk_drewN ?_ _ | refine blk_drew ?_ | refine blk_alloc ?_ _)); exact BK201.out)) : gb212 ≠ gb201)); clear BK197; clear BK198; clear BK200; clear BK201; clear HB; have BK197 := n0_; have BK198 := n1_; have BK200 := n2_; have BK201 := n3_; have HB := n4_; have BK212 := n5_; have GW212 := n6_; have GE212 := n7_; have NB197_212 := n8_; have NB212_197 := n9_; have NB198_212 := n10_; have NB212_198 := n11_; have NB200_212 := n12_; have NB212_200 := n13_; have NB201_212 := n14_; have NB212_201 := n15_; clear n0_ n1_ n2_ n3_ n4_ n5_ n6_ n7_ n8_ n9_ n10_ n11_ n12_ n13_ n14_ n15_; clear hb hbox hg; have hnb54 := NB212_197.out; have hnc54 := NB197_212.out; have hnb55 := NB212_198.out; have hnc55 := NB198_212.out; have hnb56 := NB212_200.out; have hnc56 := NB200_212.out; have hnb57 := NB212_201.out; have hnc57 := NB201_212.out; have hcz58_0 : w53.cell? ⟨gb212, 0, none⟩ = some (.int .u64 0) := (blk_cell BK212.out 0).trans rfl; have hcz58_1 : w53.cell? ⟨gb212, 1, none⟩ = some (.int .u64 0) := (blk_cell BK212.out 1).trans rfl; have hfz58_0 := blk_frozen BK212.out 0; have hfz58_1 := blk_frozen BK212.out 1) | ((with_reducible refine gate_callee (f := 16) rfl ?_); refine goesL_ (some 63) rfl rfl Try.func16 (by kernel_rfl) rfl #[.bool ((Int.tmod (IntKind.u64.wrap (Int.tdiv (IntKind.u64.wrap (rd l0 x35_1)) 13)) 2) == 0)] rfl (by (try simp only [List.map_toArray, List.map_cons, List.map_nil]); first | done | rfl | (simp only [List.length_drop, List.length_take]; rfl)) ?_; (with_reducible refine (posternlaw14_size.calls ((Int.tmod (IntKind.u64.wrap (Int.tdiv (IntKind.u64.wrap (rd l0 x35_1)) 13)) 2) == 0) t213 _ A40.out).mono ?_); rintro e w' ⟨rfl, ⟨nd, rfl⟩⟩; refine ⟨_, rfl, ?_⟩) | ((with_reducible refine gate_callee (f := 15) rfl ?_); refine goesL_ (some 66) rfl rfl Try.func15 (by kernel_rfl) rfl #[.int .i64 (wrap64 ((wrap64 (Int.tmod (IntKind.u64.wrap (rd l0 x35_1)) 13)) * 16)), .int .i64 t213, .int .u64 x9_1, .int .u64 x10_1] rfl (by (try simp only [List.map_toArray, List.map_cons, List.map_nil]); first | done | rfl | (simp only [List.length_drop, List.length_take]; rfl)) ?_; (with_reducible refine (posternref05_Do.calls k1 (wrap64 ((wrap64 (Int.tmod (IntKind.u64.wrap (rd l0 x35_1)) 13)) * 16)) t213 x9_1 x10_1 t214 t215 _ A41.out).mono ?_); rintro e w' ⟨rfl, ⟨nd, rfl⟩⟩; refine ⟨_, rfl, ?_⟩) | (go_at_call 19; (with_reducible refine (tnum_Has.calls t209 t210 t214 true _ A43.out).mono ?_); rintro e w59 ⟨rfl, hb⟩; have n0_ := Aside0.mk (blk_below (g := gb197) (o := .cells #[.int .u64 a1_0, .int .u64 a1_1, .int .u64 a1_2, .int .u64 a1_3] 25 (0, 0)) (by (with_reducible repeat (first | refine blk_drewN ?_ _ | refine blk_drew ?_ | refine blk_alloc ?_ _)); refine blk_far ?_ NB197_212.out _; (with_reducible repeat (first | refine blk_drewN ?_ _ | refine blk_drew ?_ | refine blk_alloc ?_ _)); refine blk_far ?_ NB197_212.out _; (with_reducible repeat (first | refine blk_drewN ?_ _ | refine blk_drew ?_ | refine blk_alloc ?_ _)); exact BK197.out) hb); have n1_ := Aside0.mk (blk_below (g := gb198) (o := .cells #[.int .u64 a2_0, .int .u64 a2_1] 26 (0, 0)) (by (with_reducible repeat (first | refine blk_drewN ?_ _ | refine blk_drew ?_ | refine blk_alloc ?_ _)); refine blk_far ?_ NB198_212.out _; (with_reducible repeat (first | refine blk_drewN ?_ _ | refine blk_drew ?_ | refine blk_alloc ?_ _)); refine blk_far ?_ NB198_212.out _; (with_reducible repeat (first | refine blk_drewN ?_ _ | refine blk_drew ?_ | refine blk_alloc ?_ _)); exact BK198.out) hb); have n2_ := Aside0.mk (blk_below (g := gb200) (o := .cells #[.int .u64 x201000_1, .int .u64 x201001_1] 24 (0, 0)) (by (with_reducible repeat (first | refine blk_drewN ?_ _ | refine blk_drew ?_ | refine blk_alloc ?_ _)); refine blk_far ?_ NB200_212.out _; (with_reducible repeat (first | refine blk_drewN ?_ _ | refine blk_drew ?_ | refine blk_alloc ?_ _)); refine blk_far ?_ NB200_212.out _; (with_reducible repeat (first | refine blk_drewN ?_ _ | refine blk_drew ?_ | refine blk_alloc ?_ _)); exact BK200.out) hb); have n3_ := Aside0.mk (blk_below (g := gb201) (o := .cells #[.int .u64 x202000_1, .int .u64 x202001_1] 24 (0, 0)) (by (with_reducible repeat (first | refine blk_drewN ?_ _ | refine blk_drew ?_ | refine blk_alloc ?_ _)); refine blk_far ?_ NB201_212.out _; (with_reducible repeat (first | refine blk_drewN ?_ _ | refine blk_drew ?_ | refine blk_alloc ?_ _)); refine blk_far ?_ NB201_212.out _; (with_reducible repeat (first | refine blk_drewN ?_ _ | refine blk_drew ?_ | refine blk_alloc ?_ _)); exact BK201.out) hb); have n4_ := Aside0.mk (blk_below (g := gb212) (o := .cells #[.int .u64 t209, .int .u64 t210] 24 (0, 0)) (by (with_reducible repeat (first | refine blk_drewN ?_ _ | refine blk_drew ?_ | refine blk_alloc ?_ _)); refine blk_put (cs := #[.int .u64 t209, .int .u64 0]) ?_ 1 _ rfl; (with_reducible repeat (first | refine blk_drewN ?_ _ | refine blk_drew ?_ | refine blk_alloc ?_ _)); refine blk_put (cs := #[.int .u64 0, .int .u64 0]) ?_ 0 _ rfl; (with_reducible repeat (first | refine blk_drewN ?_ _ | refine blk_drew ?_ | refine blk_alloc ?_ _)); exact BK212.out) hb); have n5_ := Aside0.mk (below_step (by repeat (first | (with_reducible first | exact HB.out | apply below_alloc | apply pw_below_drewN | apply below_drew1 | refine below_set ?_ GE197.out | refine below_set ?_ GE198.out | refine below_set ?_ GE200.out | refine below_set ?_ GE201.out | refine below_set ?_ GE212.out) | exact HB.out)) hb); clear BK197; clear BK198; clear BK200; clear BK201; clear BK212; clear HB; have BK197 := n0_; have BK198 := n1_; have BK200 := n2_; have BK201 := n3_; have BK212 := n4_; have HB := n5_; clear n0_ n1_ n2_ n3_ n4_ n5_; (try clear hb); (try clear hb2); (try clear hk); (try clear hi)))
                    have n0_ := Aside0.mk (blk_drew BK197.out)
                    have n1_ := Aside0.mk (blk_drew BK198.out)
                    have n2_ := Aside0.mk (blk_drew BK200.out)
                    have n3_ := Aside0.mk (blk_drew BK201.out)
                    have n4_ := Aside0.mk (blk_drew BK212.out)
                    have n5_ := Aside0.mk (below_drew1 HB.out)
                    clear BK197
                    clear BK198
                    clear BK200
                    clear BK201
                    clear BK212
                    clear HB
                    have BK197 := n0_
                    have BK198 := n1_
                    have BK200 := n2_
                    have BK201 := n3_
                    have BK212 := n4_
                    have HB := n5_
                    clear n0_ n1_ n2_ n3_ n4_ n5_
                    refine start_ (n := 4) (S := fun w' => w'.cell? ⟨gb201, 0, none⟩ = some (.int .u64 x202000_1) ∧ w'.cell? ⟨gb201, 1, none⟩ = some (.int .u64 x202001_1) ∧ w'.cell? ⟨gb212, 0, none⟩ = some (.int .u64 t209) ∧ w'.cell? ⟨gb212, 1, none⟩ = some (.int .u64 t210)) (ds := [3]) #[false, false, false, false] (by kernel_rfl) rfl rfl ⟨(blk_cell BK201.out 0).trans rfl, (blk_cell BK201.out 1).trans rfl, (blk_cell BK212.out 0).trans rfl, (blk_cell BK212.out 1).trans rfl⟩ (fun hHeld => ?_)
                    generalize w59.drew = w60 at BK197 BK198 BK200 BK201 BK212 HB hHeld ⊢
                    refine take_ (i := 0) (N := some 77) (v := ?_) (a' := ?_) #[true, false, false, false] rfl rfl (by kernel_rfl) (fun _ _ _ h => h) (Or.inl ⟨by rfl, ?_⟩) hHeld ?_ ?_
                    rotate_left
                    · rintro w' ⟨s0, s1, s2, s3⟩
                      go_simp
                      with_reducible rfl
                    rotate_left
                    · simp only [Act.put, List.setIfInBounds_toArray, List.set_cons_zero, List.set_cons_succ, i64_w, i32_w]
                      rfl
                    refine take_ (i := 1) (N := some 78) (v := ?_) (a' := ?_) #[true, true, false, false] rfl rfl (by kernel_rfl) (fun _ _ _ h => h) (Or.inl ⟨by rfl, ?_⟩) hHeld ?_ ?_
                    rotate_left
                    · rintro w' ⟨s0, s1, s2, s3⟩
                      go_simp
                      with_reducible rfl
                    rotate_left
                    · simp only [Act.put, List.setIfInBounds_toArray, List.set_cons_zero, List.set_cons_succ, i64_w, i32_w]
                      rfl
                    refine one_ (i := 2) (N := none) #[true, true, true, false] rfl rfl (by kernel_rfl) (by decide) (fun K hK => ?_)
                    have hs61 : w60.cell? ⟨gb200, 0, none⟩ = some (.int .u64 x201000_1) := (blk_cell BK200.out 0).trans rfl
                    have hfs61 := blk_frozen BK200.out 0
                    have hns61_0 := NB197_200.out
                    have hns61_1 := NB198_200.out
                    have hns61_3 := NB201_200.out
                    have hns61_4 := NB212_200.out
                    have hms61_0 := NB200_197.out
                    have hms61_1 := NB200_198.out
                    have hms61_3 := NB200_201.out
                    have hms61_4 := NB200_212.out
                    have hs62 : w60.cell? ⟨gb200, 1, none⟩ = some (.int .u64 x201001_1) := (blk_cell BK200.out 1).trans rfl
                    have hfs62 := blk_frozen BK200.out 1
                    have hns62_0 := NB197_200.out
                    have hns62_1 := NB198_200.out
                    have hns62_3 := NB201_200.out
                    have hns62_4 := NB212_200.out
                    have hms62_0 := NB200_197.out
                    have hms62_1 := NB200_198.out
                    have hms62_3 := NB200_201.out
                    have hms62_4 := NB200_212.out
                    refine skip_ (w1 := ?_) (by rfl) rfl ?_ ?_
                    rotate_left
                    · go_simp
                      rfl
                    refine hK.out _ _ ⟨((cell_far (p := ⟨gb200, _, none⟩) NB201_200.out _).trans (((cell_far (p := ⟨gb200, _, none⟩) NB201_200.out _).trans (hHeld.1)))), ((cell_far (p := ⟨gb200, _, none⟩) NB201_200.out _).trans (((cell_far (p := ⟨gb200, _, none⟩) NB201_200.out _).trans (hHeld.2.1)))), ((cell_far (p := ⟨gb200, _, none⟩) NB212_200.out _).trans (((cell_far (p := ⟨gb200, _, none⟩) NB212_200.out _).trans (hHeld.2.2.1)))), ((cell_far (p := ⟨gb200, _, none⟩) NB212_200.out _).trans (((cell_far (p := ⟨gb200, _, none⟩) NB212_200.out _).trans (hHeld.2.2.2))))⟩ (fun hHeld => ?_)
                    clear hK K
                    refine last_ (i := 3) (N := none) #[true, true, true, true] rfl rfl (by kernel_rfl) (by decide) (fun K hK => ?_)
                    have hs63 : w60.cell? ⟨gb201, 0, none⟩ = some (.int .u64 x202000_1) := (blk_cell BK201.out 0).trans rfl
                    have hfs63 := blk_frozen BK201.out 0
                    have hns63_0 := NB197_201.out
                    have hns63_1 := NB198_201.out
                    have hns63_2 := NB200_201.out
                    have hns63_4 := NB212_201.out
                    have hms63_0 := NB201_197.out
                    have hms63_1 := NB201_198.out
                    have hms63_2 := NB201_200.out
                    have hms63_4 := NB201_212.out
                    have hs64 : w60.cell? ⟨gb201, 1, none⟩ = some (.int .u64 x202001_1) := (blk_cell BK201.out 1).trans rfl
                    have hfs64 := blk_frozen BK201.out 1
                    have hns64_0 := NB197_201.out
                    have hns64_1 := NB198_201.out
                    have hns64_2 := NB200_201.out
                    have hns64_4 := NB212_201.out
                    have hms64_0 := NB201_197.out
                    have hms64_1 := NB201_198.out
                    have hms64_2 := NB201_200.out
                    have hms64_4 := NB201_212.out
                    refine skip_ (w1 := ?_) (by rfl) rfl ?_ ?_
                    rotate_left
                    · go_simp
                      rfl
                    refine hK.out _ _ ?_
                    clear hK K
                    refine done_ (by kernel_rfl) ?_
                    try go_wp2
                    go_roundg k1
                    case measure => have := HK1.out; omega
                    case rel => exact ⟨(x10_1), (t214), (wrap64 (x35_1 + 1)), (x202000_1), (x202001_1), (t209), (t210), (by first | rfl | (simp; done) | (simp [*]; done)), (by first | rfl | (simp; done) | (simp [*]; done)), (by first | rfl | (simp; done) | (simp [*]; done)), H', ⟨by have := HK1.out; omega⟩, ⟨by (with_reducible repeat (first | refine blk_drewN ?_ _ | refine blk_drew ?_ | refine blk_alloc ?_ _)); refine blk_far ?_ NB197_201.out _; (with_reducible repeat (first | refine blk_drewN ?_ _ | refine blk_drew ?_ | refine blk_alloc ?_ _)); refine blk_far ?_ NB197_201.out _; (with_reducible repeat (first | refine blk_drewN ?_ _ | refine blk_drew ?_ | refine blk_alloc ?_ _)); refine blk_far ?_ NB197_200.out _; (with_reducible repeat (first | refine blk_drewN ?_ _ | refine blk_drew ?_ | refine blk_alloc ?_ _)); refine blk_far ?_ NB197_200.out _; (with_reducible repeat (first | refine blk_drewN ?_ _ | refine blk_drew ?_ | refine blk_alloc ?_ _)); exact BK197.out⟩, ⟨by (with_reducible repeat (first | refine blk_drewN ?_ _ | refine blk_drew ?_ | refine blk_alloc ?_ _)); refine blk_far ?_ NB198_201.out _; (with_reducible repeat (first | refine blk_drewN ?_ _ | refine blk_drew ?_ | refine blk_alloc ?_ _)); refine blk_far ?_ NB198_201.out _; (with_reducible repeat (first | refine blk_drewN ?_ _ | refine blk_drew ?_ | refine blk_alloc ?_ _)); refine blk_far ?_ NB198_200.out _; (with_reducible repeat (first | refine blk_drewN ?_ _ | refine blk_drew ?_ | refine blk_alloc ?_ _)); refine blk_far ?_ NB198_200.out _; (with_reducible repeat (first | refine blk_drewN ?_ _ | refine blk_drew ?_ | refine blk_alloc ?_ _)); exact BK198.out⟩, ⟨by (with_reducible repeat (first | refine blk_drewN ?_ _ | refine blk_drew ?_ | refine blk_alloc ?_ _)); refine blk_far ?_ NB200_201.out _; (with_reducible repeat (first | refine blk_drewN ?_ _ | refine blk_drew ?_ | refine blk_alloc ?_ _)); refine blk_far ?_ NB200_201.out _; (with_reducible repeat (first | refine blk_drewN ?_ _ | refine blk_drew ?_ | refine blk_alloc ?_ _)); refine blk_put (cs := #[.int .u64 x202000_1, .int .u64 x201001_1]) ?_ 1 _ rfl; (with_reducible repeat (first | refine blk_drewN ?_ _ | refine blk_drew ?_ | refine blk_alloc ?_ _)); refine blk_put (cs := #[.int .u64 x201000_1, .int .u64 x201001_1]) ?_ 0 _ rfl; (with_reducible repeat (first | refine blk_drewN ?_ _ | refine blk_drew ?_ | refine blk_alloc ?_ _)); exact BK200.out⟩, ⟨by (with_reducible repeat (first | refine blk_drewN ?_ _ | refine blk_drew ?_ | refine blk_alloc ?_ _)); refine blk_put (cs := #[.int .u64 t209, .int .u64 x202001_1]) ?_ 1 _ rfl; (with_reducible repeat (first | refine blk_drewN ?_ _ | refine blk_drew ?_ | refine blk_alloc ?_ _)); refine blk_put (cs := #[.int .u64 x202000_1, .int .u64 x202001_1]) ?_ 0 _ rfl; (with_reducible repeat (first | refine blk_drewN ?_ _ | refine blk_drew ?_ | refine blk_alloc ?_ _)); refine blk_far ?_ NB201_200.out _; (with_reducible repeat (first | refine blk_drewN ?_ _ | refine blk_drew ?_ | refine blk_alloc ?_ _)); refine blk_far ?_ NB201_200.out _; (with_reducible repeat (first | refine blk_drewN ?_ _ | refine blk_drew ?_ | refine blk_alloc ?_ _)); exact BK201.out⟩, ⟨by repeat (first | (with_reducible first | exact HB.out | apply below_alloc | apply pw_below_drewN | apply below_drew1 | refine below_set ?_ GE197.out | refine below_set ?_ GE198.out | refine below_set ?_ GE200.out | refine below_set ?_ GE201.out | refine below_set ?_ GE212.out) | exact HB.out)⟩⟩
                  · replace c44 := Bool.eq_false_iff.mpr c44
                    subst c44
                    have H1 : (some false) = some r := by rw [if_neg (show ¬ (false = true) by decide)] at H; exact H
                    clear H
                    have H := H1
                    clear H1
                    exact absurd (H.trans (congrArg some hr_.out)) (by simp)
                · rw [if_neg c42] at H
                  have c42b0 : (t211 == 0) = false := beq_eq_false_iff_ne.mpr c42
                  have c42b1 : (t211 != 0) = true := bne_iff_ne.mpr c42
                  exact absurd (H.trans (congrArg some hr_.out)) (by simp)
            · rw [if_neg c25] at H
              exact absurd H (by simp)
          · rw [if_neg c24] at H
            exact absurd H (by simp)
        · rw [if_neg c23] at H
          have c23b0 : decide (x35_1 < (l0.length : Int)) = false := decide_eq_false c23
          clear c23
          replace H := Option.bind_eq_some_iff.mp H
          obtain ⟨t204, A650, H⟩ := H
          replace H : (if t204 = true then ((tnum_Has.f x202000_1 x202001_1 x10_1).bind fun t205 => (some t205)) else (some false)) = some r := H
          have A65 := Aside0.mk A650
          clear A650
          by_cases c66 : t204 = true
          · subst c66
            have H1 : ((tnum_Has.f x202000_1 x202001_1 x10_1).bind fun t205 => (some t205)) = some r := by rw [if_pos rfl] at H; exact H
            clear H
            have H := H1
            clear H1
            replace H := Option.bind_eq_some_iff.mp H
            obtain ⟨t205, A670, H⟩ := H
            replace H : (some t205) = some r := H
            have A67 := Aside0.mk A670
            clear A670
            obtain rfl := Option.some.inj H
            have hnb68 := NB200_197.out
            have hnc68 := NB197_200.out
            have hnb69 := NB200_198.out
            have hnc69 := NB198_200.out
            have hnb70 := NB200_201.out
            have hnc70 := NB201_200.out
            have hcz71_0 : wr.cell? ⟨gb200, 0, none⟩ = some (.int .u64 x201000_1) := (blk_cell BK200.out 0).trans rfl
            have hcz71_1 : wr.cell? ⟨gb200, 1, none⟩ = some (.int .u64 x201001_1) := (blk_cell BK200.out 1).trans rfl
            have hfz71_0 := blk_frozen BK200.out 0
            have hfz71_1 := blk_frozen BK200.out 1
            go_wp2_with (first | ((with_reducible refine gate_callee (f := 19) rfl ?_); refine goesL_ (some 84) rfl rfl Try.func19 (by kernel_rfl) rfl #[.agg #[.int .u64 x201000_1, .int .u64 x201001_1], .int .u64 x9_1] rfl (by (try simp only [List.map_toArray, List.map_cons, List.map_nil]); first | done | rfl | (simp only [List.length_drop, List.length_take]; rfl)) ?_; (with_reducible refine (tnum_Has.calls x201000_1 x201001_1 x9_1 true _ A65.out).mono ?_); rintro e w72 ⟨rfl, hb⟩; refine ⟨_, rfl, ?_⟩; have n0_ := Aside0.mk (blk_below (g := gb197) (o := .cells #[.int .u64 a1_0, .int .u64 a1_1, .int .u64 a1_2, .int .u64 a1_3] 25 (0, 0)) (by (with_reducible repeat (first | refine blk_drewN ?_ _ | refine blk_drew ?_ | refine blk_alloc ?_ _)); exact BK197.out) hb); have n1_ := Aside0.mk (blk_below (g := gb198) (o := .cells #[.int .u64 a2_0, .int .u64 a2_1] 26 (0, 0)) (by (with_reducible repeat (first | refine blk_drewN ?_ _ | refine blk_drew ?_ | refine blk_alloc ?_ _)); exact BK198.out) hb); have n2_ := Aside0.mk (blk_below (g := gb200) (o := .cells #[.int .u64 x201000_1, .int .u64 x201001_1] 24 (0, 0)) (by (with_reducible repeat (first | refine blk_drewN ?_ _ | refine blk_drew ?_ | refine blk_alloc ?_ _)); exact BK200.out) hb); have n3_ := Aside0.mk (blk_below (g := gb201) (o := .cells #[.int .u64 x202000_1, .int .u64 x202001_1] 24 (0, 0)) (by (with_reducible repeat (first | refine blk_drewN ?_ _ | refine blk_drew ?_ | refine blk_alloc ?_ _)); exact BK201.out) hb); have n4_ := Aside0.mk (below_step (by repeat (first | (with_reducible first | exact HB.out | apply below_alloc | apply pw_below_drewN | apply below_drew1 | refine below_set ?_ GE197.out | refine below_set ?_ GE198.out | refine below_set ?_ GE200.out | refine below_set ?_ GE201.out) | exact HB.out)) hb); clear BK197; clear BK198; clear BK200; clear BK201; clear HB; have BK197 := n0_; have BK198 := n1_; have BK200 := n2_; have BK201 := n3_; have HB := n4_; clear n0_ n1_ n2_ n3_ n4_; (try clear hb); (try clear hb2); (try clear hk); (try clear hi); have hnb73 := NB201_197.out; have hnc73 := NB197_201.out; have hnb74 := NB201_198.out; have hnc74 := NB198_201.out; have hcz75_0 : w72.cell? ⟨gb201, 0, none⟩ = some (.int .u64 x202000_1) := (blk_cell BK201.out 0).trans rfl; have hcz75_1 : w72.cell? ⟨gb201, 1, none⟩ = some (.int .u64 x202001_1) := (blk_cell BK201.out 1).trans rfl; have hfz75_0 := blk_frozen BK201.out 0; have hfz75_1 := blk_frozen BK201.out 1) | (go_at_call 19; (with_reducible refine (tnum_Has.calls x202000_1 x202001_1 x10_1 t205 _ A67.out).mono ?_); rintro e w76 ⟨rfl, hb⟩; have n0_ := Aside0.mk (blk_below (g := gb197) (o := .cells #[.int .u64 a1_0, .int .u64 a1_1, .int .u64 a1_2, .int .u64 a1_3] 25 (0, 0)) (by (with_reducible repeat (first | refine blk_drewN ?_ _ | refine blk_drew ?_ | refine blk_alloc ?_ _)); exact BK197.out) hb); have n1_ := Aside0.mk (blk_below (g := gb198) (o := .cells #[.int .u64 a2_0, .int .u64 a2_1] 26 (0, 0)) (by (with_reducible repeat (first | refine blk_drewN ?_ _ | refine blk_drew ?_ | refine blk_alloc ?_ _)); exact BK198.out) hb); have n2_ := Aside0.mk (blk_below (g := gb200) (o := .cells #[.int .u64 x201000_1, .int .u64 x201001_1] 24 (0, 0)) (by (with_reducible repeat (first | refine blk_drewN ?_ _ | refine blk_drew ?_ | refine blk_alloc ?_ _)); exact BK200.out) hb); have n3_ := Aside0.mk (blk_below (g := gb201) (o := .cells #[.int .u64 x202000_1, .int .u64 x202001_1] 24 (0, 0)) (by (with_reducible repeat (first | refine blk_drewN ?_ _ | refine blk_drew ?_ | refine blk_alloc ?_ _)); exact BK201.out) hb); have n4_ := Aside0.mk (below_step (by repeat (first | (with_reducible first | exact HB.out | apply below_alloc | apply pw_below_drewN | apply below_drew1 | refine below_set ?_ GE197.out | refine below_set ?_ GE198.out | refine below_set ?_ GE200.out | refine below_set ?_ GE201.out) | exact HB.out)) hb); clear BK197; clear BK198; clear BK200; clear BK201; clear HB; have BK197 := n0_; have BK198 := n1_; have BK200 := n2_; have BK201 := n3_; have HB := n4_; clear n0_ n1_ n2_ n3_ n4_; (try clear hb); (try clear hb2); (try clear hk); (try clear hi)))
            go_ret
            exact ⟨by first | rfl | (simp [errW_none, errW_some] <;> rfl) | (simp [*, errW_none, errW_some] <;> rfl), by repeat (first | (with_reducible first | exact HB.out | apply below_alloc | apply pw_below_drewN | apply below_drew1 | refine below_set ?_ GE197.out | refine below_set ?_ GE198.out | refine below_set ?_ GE200.out | refine below_set ?_ GE201.out) | exact HB.out)⟩
          · replace c66 := Bool.eq_false_iff.mpr c66
            subst c66
            have H1 : (some false) = some r := by rw [if_neg (show ¬ (false = true) by decide)] at H; exact H
            clear H
            have H := H1
            clear H1
            exact absurd (H.trans (congrArg some hr_.out)) (by simp)
  · replace c5 := Bool.eq_false_iff.mpr c5
    subst c5
    have H1 : (some false) = some r := by rw [if_neg (show ¬ (false = true) by decide)] at H; exact H
    clear H
    have H := H1
    clear H1
    exact absurd (H.trans (congrArg some hr_.out)) (by simp)

end Go.Proofs.Ytladlljnpmpdpaa.PTnumChains
