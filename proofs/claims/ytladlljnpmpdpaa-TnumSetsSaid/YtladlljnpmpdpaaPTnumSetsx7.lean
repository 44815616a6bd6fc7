import Derived.Test.YtladlljnpmpdpaaPTnumSetsx0
import Derived.Test.YtladlljnpmpdpaaPTnumSetsx1
import Derived.Test.YtladlljnpmpdpaaPTnumSetsx2
import Derived.Test.YtladlljnpmpdpaaPTnumSetsx5
import Derived.Test.YtladlljnpmpdpaaPTnumSetsx6
namespace Go.Proofs.Ytladlljnpmpdpaa.PTnumSets
open Go.RowKit Go.Proofs.YtladlljnpmpdpaaW.PrintWords Go.Proofs.YtladlljnpmpdpaaW.PrintLast Go.Proofs.YtladlljnpmpdpaaW.PrintMore
attribute [local go_sem] max2_int min2_int max_two min_two max_three min_three max_four min_four   -- for this text's walks alone
attribute [local go_sem high] Go.Proofs.Ytladlljnpmpdpaa.NotLaw.not_u64 Go.Proofs.Ytladlljnpmpdpaa.NotLaw.not_u32 Go.Proofs.Ytladlljnpmpdpaa.NotLaw.not_u16 Go.Proofs.Ytladlljnpmpdpaa.NotLaw.not_u8
set_option linter.unusedVariables false
set_option linter.unusedSimpArgs false
attribute [local go_sem high] eqA24
theorem qT {α : Type _} (l : List α) (i : Nat) (a : α) : l.toArray.setIfInBounds i a = (l.set i a).toArray := List.setIfInBounds_toArray l i a
theorem q0 {α : Type _} {x b : α} {l : List α} : (x :: l).set 0 b = b :: l := List.set_cons_zero
theorem q1 {α : Type _} {x b : α} {l : List α} {n : Nat} : (x :: l).set (n + 1) b = x :: l.set n b := List.set_cons_succ
abbrev y : Bool := true
abbrev z : Bool := false
set_option maxHeartbeats 8000000 in
set_option maxRecDepth 100000 in
theorem posternlaw14_TnumSets.calls (k : Nat) (a0_0 : Int) (a0_1 : Int) (a1_0 : Int) (a1_1 : Int) (a2 : Int) (r : Bool) (w : World) (hr_ : Aside0 (r = true)) (h : posternlaw14_TnumSets.f k a0_0 a0_1 a1_0 a1_1 a2 = some r) :
  Calls Try.prog 7 #[.agg #[.int .u64 a0_0, .int .u64 a0_1], .agg #[.int .u64 a1_0, .int .u64 a1_1], .int .u64 a2] w fun e w' => e = .returned (.bool r) ∧ Below w.heap.size w w' := by
 have hu24 := Try.underlying24
 have HB := Aside0.mk (Below.refl w.heap.size w)
 have H : ((posternlaw14_first.f k).bind fun t213 => (if t213 = true then ((posternref14_Member.f a0_0 a0_1 a2).bind fun t214 => ((posternref14_Member.f a1_0 a1_1 a2).bind fun t215 => ((tnum_Has.f a0_0 a0_1 t214).bind fun t216 => (if t216 = true then ((tnum_Any.f).bind fun bt217 => ((tnum_Has.f bt217.1 bt217.2 a2).bind fun t219 => (if t219 = true then ((tnum_Const.f a2).bind fun bt220 => ((tnum_Has.f bt220.1 bt220.2 a2).bind fun t222 => (if t222 = true then ((tnum_Const.f a2).bind fun bt223 => ((tnum_Has.f bt223.1 bt223.2 (IntKind.u64.wrap (a2 + 1))).bind fun t225 => (if t225 = true then (posternlaw14_TnumSets.j0 k a2 t214 t215 true a0_0 a0_1 a1_0 a1_1) else ((tnum_Has.f a0_0 a0_1 a2).bind fun t226 => (posternlaw14_TnumSets.j0 k a2 t214 t215 (t226 != (t214 == a2)) a0_0 a0_1 a1_0 a1_1))))) else (posternlaw14_TnumSets.j0 k a2 t214 t215 true a0_0 a0_1 a1_0 a1_1)))) else (posternlaw14_TnumSets.j0 k a2 t214 t215 true a0_0 a0_1 a1_0 a1_1)))) else (posternlaw14_TnumSets.j0 k a2 t214 t215 true a0_0 a0_1 a1_0 a1_1))))) else (some false))) = some r := h
 clear h; replace H := Option.bind_eq_some_iff.mp H; obtain ⟨t213, A40, H⟩ := H
 replace H : (if t213 = true then ((posternref14_Member.f a0_0 a0_1 a2).bind fun t214 => ((posternref14_Member.f a1_0 a1_1 a2).bind fun t215 => ((tnum_Has.f a0_0 a0_1 t214).bind fun t216 => (if t216 = true then ((tnum_Any.f).bind fun bt217 => ((tnum_Has.f bt217.1 bt217.2 a2).bind fun t219 => (if t219 = true then ((tnum_Const.f a2).bind fun bt220 => ((tnum_Has.f bt220.1 bt220.2 a2).bind fun t222 => (if t222 = true then ((tnum_Const.f a2).bind fun bt223 => ((tnum_Has.f bt223.1 bt223.2 (IntKind.u64.wrap (a2 + 1))).bind fun t225 => (if t225 = true then (posternlaw14_TnumSets.j0 k a2 t214 t215 true a0_0 a0_1 a1_0 a1_1) else ((tnum_Has.f a0_0 a0_1 a2).bind fun t226 => (posternlaw14_TnumSets.j0 k a2 t214 t215 (t226 != (t214 == a2)) a0_0 a0_1 a1_0 a1_1))))) else (posternlaw14_TnumSets.j0 k a2 t214 t215 true a0_0 a0_1 a1_0 a1_1)))) else (posternlaw14_TnumSets.j0 k a2 t214 t215 true a0_0 a0_1 a1_0 a1_1)))) else (posternlaw14_TnumSets.j0 k a2 t214 t215 true a0_0 a0_1 a1_0 a1_1))))) else (some false)) = some r := H
 have A4 := Aside0.mk A40; clear A40
 by_cases c5 : t213 = true
 ·
  subst c5
  have H1 : ((posternref14_Member.f a0_0 a0_1 a2).bind fun t214 => ((posternref14_Member.f a1_0 a1_1 a2).bind fun t215 => ((tnum_Has.f a0_0 a0_1 t214).bind fun t216 => (if t216 = true then ((tnum_Any.f).bind fun bt217 => ((tnum_Has.f bt217.1 bt217.2 a2).bind fun t219 => (if t219 = true then ((tnum_Const.f a2).bind fun bt220 => ((tnum_Has.f bt220.1 bt220.2 a2).bind fun t222 => (if t222 = true then ((tnum_Const.f a2).bind fun bt223 => ((tnum_Has.f bt223.1 bt223.2 (IntKind.u64.wrap (a2 + 1))).bind fun t225 => (if t225 = true then (posternlaw14_TnumSets.j0 k a2 t214 t215 true a0_0 a0_1 a1_0 a1_1) else ((tnum_Has.f a0_0 a0_1 a2).bind fun t226 => (posternlaw14_TnumSets.j0 k a2 t214 t215 (t226 != (t214 == a2)) a0_0 a0_1 a1_0 a1_1))))) else (posternlaw14_TnumSets.j0 k a2 t214 t215 true a0_0 a0_1 a1_0 a1_1)))) else (posternlaw14_TnumSets.j0 k a2 t214 t215 true a0_0 a0_1 a1_0 a1_1)))) else (posternlaw14_TnumSets.j0 k a2 t214 t215 true a0_0 a0_1 a1_0 a1_1))))) = some r := by rw [if_pos rfl] at H; exact H
  clear H; have H := H1; clear H1; replace H := Option.bind_eq_some_iff.mp H; obtain ⟨t214, A60, H⟩ := H
  replace H : ((posternref14_Member.f a1_0 a1_1 a2).bind fun t215 => ((tnum_Has.f a0_0 a0_1 t214).bind fun t216 => (if t216 = true then ((tnum_Any.f).bind fun bt217 => ((tnum_Has.f bt217.1 bt217.2 a2).bind fun t219 => (if t219 = true then ((tnum_Const.f a2).bind fun bt220 => ((tnum_Has.f bt220.1 bt220.2 a2).bind fun t222 => (if t222 = true then ((tnum_Const.f a2).bind fun bt223 => ((tnum_Has.f bt223.1 bt223.2 (IntKind.u64.wrap (a2 + 1))).bind fun t225 => (if t225 = true then (posternlaw14_TnumSets.j0 k a2 t214 t215 true a0_0 a0_1 a1_0 a1_1) else ((tnum_Has.f a0_0 a0_1 a2).bind fun t226 => (posternlaw14_TnumSets.j0 k a2 t214 t215 (t226 != (t214 == a2)) a0_0 a0_1 a1_0 a1_1))))) else (posternlaw14_TnumSets.j0 k a2 t214 t215 true a0_0 a0_1 a1_0 a1_1)))) else (posternlaw14_TnumSets.j0 k a2 t214 t215 true a0_0 a0_1 a1_0 a1_1)))) else (posternlaw14_TnumSets.j0 k a2 t214 t215 true a0_0 a0_1 a1_0 a1_1)))) = some r := H
  have A6 := Aside0.mk A60; clear A60; replace H := Option.bind_eq_some_iff.mp H; obtain ⟨t215, A70, H⟩ := H
  replace H : ((tnum_Has.f a0_0 a0_1 t214).bind fun t216 => (if t216 = true then ((tnum_Any.f).bind fun bt217 => ((tnum_Has.f bt217.1 bt217.2 a2).bind fun t219 => (if t219 = true then ((tnum_Const.f a2).bind fun bt220 => ((tnum_Has.f bt220.1 bt220.2 a2).bind fun t222 => (if t222 = true then ((tnum_Const.f a2).bind fun bt223 => ((tnum_Has.f bt223.1 bt223.2 (IntKind.u64.wrap (a2 + 1))).bind fun t225 => (if t225 = true then (posternlaw14_TnumSets.j0 k a2 t214 t215 true a0_0 a0_1 a1_0 a1_1) else ((tnum_Has.f a0_0 a0_1 a2).bind fun t226 => (posternlaw14_TnumSets.j0 k a2 t214 t215 (t226 != (t214 == a2)) a0_0 a0_1 a1_0 a1_1))))) else (posternlaw14_TnumSets.j0 k a2 t214 t215 true a0_0 a0_1 a1_0 a1_1)))) else (posternlaw14_TnumSets.j0 k a2 t214 t215 true a0_0 a0_1 a1_0 a1_1)))) else (posternlaw14_TnumSets.j0 k a2 t214 t215 true a0_0 a0_1 a1_0 a1_1))) = some r := H
  have A7 := Aside0.mk A70; clear A70
  have HC8 := Aside0.mk H
  clear H
  go_enter Try.func7, Try.ntmps7
  try go_wp2_with (first | ((with_reducible refine gate_dst (N := 3) rfl ?_); refine box_event ?hg (N := 3) ?hd (cs := #[.int .u64 a0_0, .int .u64 a0_1]) (t := 24) ?hr ?_; (case hd => rfl); (case hg => rfl); (case hr => first | (go_simp; done) | (go_simp; rfl)); intro gb211 hg w9 hbox hb; have n0_ := Aside0.mk (below_step (by repeat (first | (with_reducible first | exact HB.out | apply lA | apply lN | apply lD) | exact HB.out)) hb); have n1_ := Aside0.mk (hbox); have n2_ := Aside0.mk ((by rw [hg]; exact (below_size (by repeat (first | (with_reducible first | exact HB.out | apply lA | apply lN | apply lD) | exact HB.out))) : w.heap.size ≤ gb211)); have n3_ := n2_; clear HB; have HB := n0_; have BK211 := n1_; have GW211 := n2_; have GE211 := n3_; clear n0_ n1_ n2_ n3_; clear hb hbox hg) | ((with_reducible refine gate_dst (N := 4) rfl ?_); refine box_event ?hg (N := 4) ?hd (cs := #[.int .u64 a1_0, .int .u64 a1_1]) (t := 24) ?hr ?_; (case hd => rfl); (case hg => rfl); (case hr => first | (go_simp; done) | (go_simp; rfl)); intro gb212 hg w10 hbox hb; have n0_ := Aside0.mk (blk_below (g := gb211) (o := .cells #[.int .u64 a0_0, .int .u64 a0_1] 24 (0, 0)) (by (with_reducible repeat (first | apply bN | apply bD | apply bA)); exact BK211.out) hb); have n1_ := Aside0.mk (below_step (by repeat (first | (with_reducible first | exact HB.out | apply lA | apply lN | apply lD | refine lS ?_ ‹_›) | exact HB.out)) hb); have n2_ := Aside0.mk (hbox); have n3_ := Aside0.mk ((by rw [hg]; exact (below_size (by repeat (first | (with_reducible first | exact HB.out | apply lA | apply lN | apply lD | refine lS ?_ ‹_›) | exact HB.out))) : w.heap.size ≤ gb212)); have n4_ := n3_; have n5_ := Aside0.mk ((by rw [hg]; exact Nat.ne_of_lt (blk_lt (g := gb211) (o := .cells #[.int .u64 a0_0, .int .u64 a0_1] 24 (0, 0)) (by (with_reducible repeat (first | apply bN | apply bD | apply bA)); exact BK211.out)) : gb211 ≠ gb212)); have n6_ := sy n5_; clear BK211; clear HB; have BK211 := n0_; have HB := n1_; have BK212 := n2_; have GW212 := n3_; have GE212 := n4_; have NB211_212 := n5_; have NB212_211 := n6_; clear n0_ n1_ n2_ n3_ n4_ n5_ n6_; clear hb hbox hg) | ((with_reducible refine gate_callee (f := 13) rfl ?_); refine goesL_ (some 14) rfl rfl Try.func13 (by kernel_rfl) rfl #[] rfl (by (try simp only [List.map_toArray, List.map_cons, List.map_nil]); first | done | rfl | (simp only [List.length_drop, List.length_take]; rfl)) ?_; (with_reducible refine (posternlaw14_first.calls k  true _ A4.out).mono ?_); rintro e w11 ⟨rfl, hb⟩; refine ⟨_, rfl, ?_⟩; have n0_ := Aside0.mk (blk_below (g := gb211) (o := .cells #[.int .u64 a0_0, .int .u64 a0_1] 24 (0, 0)) (by (with_reducible repeat (first | apply bN | apply bD | apply bA)); exact BK211.out) hb); have n1_ := Aside0.mk (blk_below (g := gb212) (o := .cells #[.int .u64 a1_0, .int .u64 a1_1] 24 (0, 0)) (by (with_reducible repeat (first | apply bN | apply bD | apply bA)); exact BK212.out) hb); have n2_ := Aside0.mk (below_step (by repeat (first | (with_reducible first | exact HB.out | apply lA | apply lN | apply lD | refine lS ?_ ‹_›) | exact HB.out)) hb); clear BK211; clear BK212; clear HB; have BK211 := n0_; have BK212 := n1_; have HB := n2_; clear n0_ n1_ n2_; (try clear hb); (try clear hb2); (try clear hk); (try clear hi)))
  have n0_ := Aside0.mk (blk_drew BK211.out); have n1_ := Aside0.mk (blk_drew BK212.out)
  have n2_ := Aside0.mk (below_drew1 HB.out)
  clear BK211; clear BK212; clear HB; have BK211 := n0_; have BK212 := n1_; have HB := n2_; clear n0_ n1_ n2_
  refine start_ (n := 8) (S := fun w' => w'.cell? ⟨gb211, 0, none⟩ = some (.int .u64 a0_0) ∧ w'.cell? ⟨gb211, 1, none⟩ = some (.int .u64 a0_1) ∧ w'.cell? ⟨gb212, 0, none⟩ = some (.int .u64 a1_0) ∧ w'.cell? ⟨gb212, 1, none⟩ = some (.int .u64 a1_1)) (ds := []) #[z,z,z,z,z,z,z,z] (by kernel_rfl) rfl rfl ⟨(blk_cell BK211.out 0).trans rfl, (blk_cell BK211.out 1).trans rfl, (blk_cell BK212.out 0).trans rfl, (blk_cell BK212.out 1).trans rfl⟩ (fun hHeld => ?_); refine with_tabW posternlaw14_TnumSets.tab3 posternlaw14_TnumSets.bits3 (fun HT_ HW_ => ?_)
  generalize w11.drew = w12 at BK211 BK212 HB hHeld ⊢
  refine pure_ (i := 1) (N := some 17) (v := ?_) (a' := ?_) #[z,y,z,z,z,z,z,z] rfl rfl (any_of HT_.out (by kernel_rfl)) (fun _ _ _ h => h) (Or.inl ⟨by rfl, ?_⟩) ?_ ?_; rotate_left
  · intro w'; go_simp; with_reducible rfl
  rotate_left
  · simp only [Act.put, qT, q0, q1, i64_w, i32_w]; rfl
  refine pure_ (i := 4) (N := some 20) (v := ?_) (a' := ?_) #[z,y,z,z,y,z,z,z] rfl rfl (any_of HT_.out (by kernel_rfl)) (fun _ _ _ h => h) (Or.inl ⟨by rfl, ?_⟩) ?_ ?_; rotate_left
  · intro w'; go_simp; with_reducible rfl
  rotate_left
  · simp only [Act.put, qT, q0, q1, i64_w, i32_w]; rfl
  refine take_ (i := 0) (N := some 16) (v := ?_) (a' := ?_) #[y,y,z,z,y,z,z,z] rfl rfl (take_ofW HT_.out HW_.out (by kernel_rfl)) (fun _ _ _ h => h) (Or.inl ⟨by rfl, ?_⟩) hHeld ?_ ?_; rotate_left
  ·
   rintro w' ⟨s0, s1, s2, s3⟩
   go_simp; with_reducible rfl
  rotate_left
  · simp only [Act.put, qT, q0, q1, i64_w, i32_w]; rfl
  refine take_ (i := 3) (N := some 19) (v := ?_) (a' := ?_) #[y,y,z,y,y,z,z,z] rfl rfl (take_ofW HT_.out HW_.out (by kernel_rfl)) (fun _ _ _ h => h) (Or.inl ⟨by rfl, ?_⟩) hHeld ?_ ?_; rotate_left
  ·
   rintro w' ⟨s0, s1, s2, s3⟩
   go_simp; with_reducible rfl
  rotate_left
  · simp only [Act.put, qT, q0, q1, i64_w, i32_w]; rfl
  refine one_ (i := 2) (N := some 18) #[y,y,y,y,y,z,z,z] rfl rfl (one_of HT_.out (by kernel_rfl)) (by decide) (fun K hK => ?_)
  refine goes_ Try.func17 (by kernel_rfl) rfl #[.agg #[.int .u64 a0_0, .int .u64 a0_1], .int .u64 a2] (by rfl) rfl rfl (by (try simp only [List.map_toArray, List.map_cons, List.map_nil]); first | done | rfl | (simp only [List.length_drop, List.length_take]; rfl)) ?_
  with_reducible refine (posternref14_Member.calls a0_0 a0_1 a2 t214 _ A6.out).mono ?_
  rintro e w13 ⟨rfl, hb⟩; refine ⟨_, rfl, ?_⟩
  have n0_ := Aside0.mk (blk_below (g := gb211) (o := .cells #[.int .u64 a0_0, .int .u64 a0_1] 24 (0, 0)) (by (with_reducible repeat (first | apply bN | apply bD | apply bA)); exact BK211.out) hb)
  have n1_ := Aside0.mk (blk_below (g := gb212) (o := .cells #[.int .u64 a1_0, .int .u64 a1_1] 24 (0, 0)) (by (with_reducible repeat (first | apply bN | apply bD | apply bA)); exact BK212.out) hb)
  have n2_ := Aside0.mk (below_step (by repeat (first | (with_reducible first | exact HB.out | apply lA | apply lN | apply lD | refine lS ?_ ‹_›) | exact HB.out)) hb)
  clear BK211; clear BK212; clear HB; have BK211 := n0_; have BK212 := n1_; have HB := n2_; clear n0_ n1_ n2_; (try clear hb); (try clear hb2); (try clear hk); (try clear hi)
  refine hK.out _ _ ⟨(blk_cell BK211.out 0).trans rfl, (blk_cell BK211.out 1).trans rfl, (blk_cell BK212.out 0).trans rfl, (blk_cell BK212.out 1).trans rfl⟩ (fun hHeld => ?_)
  clear hK K
  refine norm_ (a' := ?_) ?_ ?_; rotate_left
  ·
   show Act.put _ (some 18) _ = _
   simp only [Act.put, qT, q0, q1, i64_w, i32_w]; rfl
  refine one_ (i := 5) (N := some 21) #[y,y,y,y,y,y,z,z] rfl rfl (one_of HT_.out (by kernel_rfl)) (by decide) (fun K hK => ?_)
  refine goes_ Try.func17 (by kernel_rfl) rfl #[.agg #[.int .u64 a1_0, .int .u64 a1_1], .int .u64 a2] (by rfl) rfl rfl (by (try simp only [List.map_toArray, List.map_cons, List.map_nil]); first | done | rfl | (simp only [List.length_drop, List.length_take]; rfl)) ?_
  with_reducible refine (posternref14_Member.calls a1_0 a1_1 a2 t215 _ A7.out).mono ?_
  rintro e w14 ⟨rfl, hb⟩; refine ⟨_, rfl, ?_⟩
  have n0_ := Aside0.mk (blk_below (g := gb211) (o := .cells #[.int .u64 a0_0, .int .u64 a0_1] 24 (0, 0)) (by (with_reducible repeat (first | apply bN | apply bD | apply bA)); exact BK211.out) hb)
  have n1_ := Aside0.mk (blk_below (g := gb212) (o := .cells #[.int .u64 a1_0, .int .u64 a1_1] 24 (0, 0)) (by (with_reducible repeat (first | apply bN | apply bD | apply bA)); exact BK212.out) hb)
  have n2_ := Aside0.mk (below_step (by repeat (first | (with_reducible first | exact HB.out | apply lA | apply lN | apply lD | refine lS ?_ ‹_›) | exact HB.out)) hb)
  clear BK211; clear BK212; clear HB; have BK211 := n0_; have BK212 := n1_; have HB := n2_; clear n0_ n1_ n2_; (try clear hb); (try clear hb2); (try clear hk); (try clear hi)
  refine hK.out _ _ ⟨(blk_cell BK211.out 0).trans rfl, (blk_cell BK211.out 1).trans rfl, (blk_cell BK212.out 0).trans rfl, (blk_cell BK212.out 1).trans rfl⟩ (fun hHeld => ?_)
  clear hK K
  refine norm_ (a' := ?_) ?_ ?_; rotate_left
  ·
   show Act.put _ (some 21) _ = _
   simp only [Act.put, qT, q0, q1, i64_w, i32_w]; rfl
  refine pure_ (i := 6) (N := some 7) (v := ?_) (a' := ?_) #[y,y,y,y,y,y,y,z] rfl rfl (any_of HT_.out (by kernel_rfl)) (fun _ _ _ h => h) (Or.inl ⟨by rfl, ?_⟩) ?_ ?_; rotate_left
  · intro w'; go_simp; with_reducible rfl
  rotate_left
  · simp only [Act.put, qT, q0, q1, i64_w, i32_w]; rfl
  refine pure_ (i := 7) (N := some 8) (v := ?_) (a' := ?_) #[y,y,y,y,y,y,y,y] rfl rfl (any_of HT_.out (by kernel_rfl)) (fun _ _ _ h => h) (Or.inl ⟨by rfl, ?_⟩) ?_ ?_; rotate_left
  · intro w'; go_simp; with_reducible rfl
  rotate_left
  · simp only [Act.put, qT, q0, q1, i64_w, i32_w]; rfl
  refine done_ (done_of HT_.out (by kernel_rfl)) ?_
  go_upto_region 4 with (fail)
  go_cut [54] (fun v54 wc => ∃ (kq : Nat) (x54_7 : Bool), v54 = .bool x54_7 ∧ Aside0 (posternlaw14_TnumSets.j0 kq a2 t214 t215 x54_7 a0_0 a0_1 a1_0 a1_1 = some r) ∧ Aside0 (kq ≤ k) ∧ Aside0 (wc.heap[gb211]? = some (.cells #[.int .u64 a0_0, .int .u64 a0_1] 24 (0, 0))) ∧ Aside0 (wc.heap[gb212]? = some (.cells #[.int .u64 a1_0, .int .u64 a1_1] 24 (0, 0))) ∧ Aside0 (Below w.heap.size w wc))
  case first => as_aux_lemma =>
   have H := HC8.out
   clear HC8; replace H := Option.bind_eq_some_iff.mp H; obtain ⟨t216, A150, H⟩ := H
   replace H : (if t216 = true then ((tnum_Any.f).bind fun bt217 => ((tnum_Has.f bt217.1 bt217.2 a2).bind fun t219 => (if t219 = true then ((tnum_Const.f a2).bind fun bt220 => ((tnum_Has.f bt220.1 bt220.2 a2).bind fun t222 => (if t222 = true then ((tnum_Const.f a2).bind fun bt223 => ((tnum_Has.f bt223.1 bt223.2 (IntKind.u64.wrap (a2 + 1))).bind fun t225 => (if t225 = true then (posternlaw14_TnumSets.j0 k a2 t214 t215 true a0_0 a0_1 a1_0 a1_1) else ((tnum_Has.f a0_0 a0_1 a2).bind fun t226 => (posternlaw14_TnumSets.j0 k a2 t214 t215 (t226 != (t214 == a2)) a0_0 a0_1 a1_0 a1_1))))) else (posternlaw14_TnumSets.j0 k a2 t214 t215 true a0_0 a0_1 a1_0 a1_1)))) else (posternlaw14_TnumSets.j0 k a2 t214 t215 true a0_0 a0_1 a1_0 a1_1)))) else (posternlaw14_TnumSets.j0 k a2 t214 t215 true a0_0 a0_1 a1_0 a1_1)) = some r := H
   have A15 := Aside0.mk A150; clear A150
   by_cases c16 : t216 = true
   ·
    subst c16
    have H1 : ((tnum_Any.f).bind fun bt217 => ((tnum_Has.f bt217.1 bt217.2 a2).bind fun t219 => (if t219 = true then ((tnum_Const.f a2).bind fun bt220 => ((tnum_Has.f bt220.1 bt220.2 a2).bind fun t222 => (if t222 = true then ((tnum_Const.f a2).bind fun bt223 => ((tnum_Has.f bt223.1 bt223.2 (IntKind.u64.wrap (a2 + 1))).bind fun t225 => (if t225 = true then (posternlaw14_TnumSets.j0 k a2 t214 t215 true a0_0 a0_1 a1_0 a1_1) else ((tnum_Has.f a0_0 a0_1 a2).bind fun t226 => (posternlaw14_TnumSets.j0 k a2 t214 t215 (t226 != (t214 == a2)) a0_0 a0_1 a1_0 a1_1))))) else (posternlaw14_TnumSets.j0 k a2 t214 t215 true a0_0 a0_1 a1_0 a1_1)))) else (posternlaw14_TnumSets.j0 k a2 t214 t215 true a0_0 a0_1 a1_0 a1_1)))) = some r := by rw [if_pos rfl] at H; exact H
    clear H; have H := H1; clear H1; replace H := Option.bind_eq_some_iff.mp H; obtain ⟨⟨t217, t218⟩, A170, H⟩ := H
    replace H : ((tnum_Has.f t217 t218 a2).bind fun t219 => (if t219 = true then ((tnum_Const.f a2).bind fun bt220 => ((tnum_Has.f bt220.1 bt220.2 a2).bind fun t222 => (if t222 = true then ((tnum_Const.f a2).bind fun bt223 => ((tnum_Has.f bt223.1 bt223.2 (IntKind.u64.wrap (a2 + 1))).bind fun t225 => (if t225 = true then (posternlaw14_TnumSets.j0 k a2 t214 t215 true a0_0 a0_1 a1_0 a1_1) else ((tnum_Has.f a0_0 a0_1 a2).bind fun t226 => (posternlaw14_TnumSets.j0 k a2 t214 t215 (t226 != (t214 == a2)) a0_0 a0_1 a1_0 a1_1))))) else (posternlaw14_TnumSets.j0 k a2 t214 t215 true a0_0 a0_1 a1_0 a1_1)))) else (posternlaw14_TnumSets.j0 k a2 t214 t215 true a0_0 a0_1 a1_0 a1_1))) = some r := H
    have A17 := Aside0.mk A170; clear A170; replace H := Option.bind_eq_some_iff.mp H; obtain ⟨t219, A180, H⟩ := H
    replace H : (if t219 = true then ((tnum_Const.f a2).bind fun bt220 => ((tnum_Has.f bt220.1 bt220.2 a2).bind fun t222 => (if t222 = true then ((tnum_Const.f a2).bind fun bt223 => ((tnum_Has.f bt223.1 bt223.2 (IntKind.u64.wrap (a2 + 1))).bind fun t225 => (if t225 = true then (posternlaw14_TnumSets.j0 k a2 t214 t215 true a0_0 a0_1 a1_0 a1_1) else ((tnum_Has.f a0_0 a0_1 a2).bind fun t226 => (posternlaw14_TnumSets.j0 k a2 t214 t215 (t226 != (t214 == a2)) a0_0 a0_1 a1_0 a1_1))))) else (posternlaw14_TnumSets.j0 k a2 t214 t215 true a0_0 a0_1 a1_0 a1_1)))) else (posternlaw14_TnumSets.j0 k a2 t214 t215 true a0_0 a0_1 a1_0 a1_1)) = some r := H
    have A18 := Aside0.mk A180; clear A180
    by_cases c19 : t219 = true
    ·
     subst c19
     have H1 : ((tnum_Const.f a2).bind fun bt220 => ((tnum_Has.f bt220.1 bt220.2 a2).bind fun t222 => (if t222 = true then ((tnum_Const.f a2).bind fun bt223 => ((tnum_Has.f bt223.1 bt223.2 (IntKind.u64.wrap (a2 + 1))).bind fun t225 => (if t225 = true then (posternlaw14_TnumSets.j0 k a2 t214 t215 true a0_0 a0_1 a1_0 a1_1) else ((tnum_Has.f a0_0 a0_1 a2).bind fun t226 => (posternlaw14_TnumSets.j0 k a2 t214 t215 (t226 != (t214 == a2)) a0_0 a0_1 a1_0 a1_1))))) else (posternlaw14_TnumSets.j0 k a2 t214 t215 true a0_0 a0_1 a1_0 a1_1)))) = some r := by rw [if_pos rfl] at H; exact H
     clear H; have H := H1; clear H1; replace H := Option.bind_eq_some_iff.mp H; obtain ⟨⟨t220, t221⟩, A200, H⟩ := H
     replace H : ((tnum_Has.f t220 t221 a2).bind fun t222 => (if t222 = true then ((tnum_Const.f a2).bind fun bt223 => ((tnum_Has.f bt223.1 bt223.2 (IntKind.u64.wrap (a2 + 1))).bind fun t225 => (if t225 = true then (posternlaw14_TnumSets.j0 k a2 t214 t215 true a0_0 a0_1 a1_0 a1_1) else ((tnum_Has.f a0_0 a0_1 a2).bind fun t226 => (posternlaw14_TnumSets.j0 k a2 t214 t215 (t226 != (t214 == a2)) a0_0 a0_1 a1_0 a1_1))))) else (posternlaw14_TnumSets.j0 k a2 t214 t215 true a0_0 a0_1 a1_0 a1_1))) = some r := H
     have A20 := Aside0.mk A200; clear A200; replace H := Option.bind_eq_some_iff.mp H; obtain ⟨t222, A210, H⟩ := H
     replace H : (if t222 = true then ((tnum_Const.f a2).bind fun bt223 => ((tnum_Has.f bt223.1 bt223.2 (IntKind.u64.wrap (a2 + 1))).bind fun t225 => (if t225 = true then (posternlaw14_TnumSets.j0 k a2 t214 t215 true a0_0 a0_1 a1_0 a1_1) else ((tnum_Has.f a0_0 a0_1 a2).bind fun t226 => (posternlaw14_TnumSets.j0 k a2 t214 t215 (t226 != (t214 == a2)) a0_0 a0_1 a1_0 a1_1))))) else (posternlaw14_TnumSets.j0 k a2 t214 t215 true a0_0 a0_1 a1_0 a1_1)) = some r := H
     have A21 := Aside0.mk A210; clear A210
     by_cases c22 : t222 = true
     ·
      subst c22
      have H1 : ((tnum_Const.f a2).bind fun bt223 => ((tnum_Has.f bt223.1 bt223.2 (IntKind.u64.wrap (a2 + 1))).bind fun t225 => (if t225 = true then (posternlaw14_TnumSets.j0 k a2 t214 t215 true a0_0 a0_1 a1_0 a1_1) else ((tnum_Has.f a0_0 a0_1 a2).bind fun t226 => (posternlaw14_TnumSets.j0 k a2 t214 t215 (t226 != (t214 == a2)) a0_0 a0_1 a1_0 a1_1))))) = some r := by rw [if_pos rfl] at H; exact H
      clear H; have H := H1; clear H1; replace H := Option.bind_eq_some_iff.mp H; obtain ⟨⟨t223, t224⟩, A230, H⟩ := H; obtain ⟨rfl, rfl⟩ : t220 = t223 ∧ t221 = t224 := by have ez := A20.out.symm.trans A230; simpa only [Option.some.injEq, Prod.mk.injEq] using ez
      replace H : ((tnum_Has.f t220 t221 (IntKind.u64.wrap (a2 + 1))).bind fun t225 => (if t225 = true then (posternlaw14_TnumSets.j0 k a2 t214 t215 true a0_0 a0_1 a1_0 a1_1) else ((tnum_Has.f a0_0 a0_1 a2).bind fun t226 => (posternlaw14_TnumSets.j0 k a2 t214 t215 (t226 != (t214 == a2)) a0_0 a0_1 a1_0 a1_1)))) = some r := H
      have A23 := Aside0.mk A230; clear A230; replace H := Option.bind_eq_some_iff.mp H; obtain ⟨t225, A240, H⟩ := H
      replace H : (if t225 = true then (posternlaw14_TnumSets.j0 k a2 t214 t215 true a0_0 a0_1 a1_0 a1_1) else ((tnum_Has.f a0_0 a0_1 a2).bind fun t226 => (posternlaw14_TnumSets.j0 k a2 t214 t215 (t226 != (t214 == a2)) a0_0 a0_1 a1_0 a1_1))) = some r := H
      have A24 := Aside0.mk A240; clear A240
      by_cases c25 : t225 = true
      ·
       subst c25
       have H1 : (posternlaw14_TnumSets.j0 k a2 t214 t215 true a0_0 a0_1 a1_0 a1_1) = some r := by rw [if_pos rfl] at H; exact H
       clear H; have H := H1; clear H1; have H' := Aside0.mk H
       clear H; have hnb26 := NB211_212.out; have hnc26 := NB212_211.out; have hcz27_0 : w14.cell? ⟨gb211, 0, none⟩ = some (.int .u64 a0_0) := (blk_cell BK211.out 0).trans rfl; have hcz27_1 : w14.cell? ⟨gb211, 1, none⟩ = some (.int .u64 a0_1) := (blk_cell BK211.out 1).trans rfl; have hfz27_0 := blk_frozen BK211.out 0; have hfz27_1 := blk_frozen BK211.out 1
       go_wp2_with (first | ((with_reducible refine gate_callee (f := 19) rfl ?_); refine goesL_ (some 24) rfl rfl Try.func19 (by kernel_rfl) rfl #[.agg #[.int .u64 a0_0, .int .u64 a0_1], .int .u64 t214] rfl (by (try simp only [List.map_toArray, List.map_cons, List.map_nil]); first | done | rfl | (simp only [List.length_drop, List.length_take]; rfl)) ?_; (with_reducible refine (tnum_Has.calls a0_0 a0_1 t214 true _ A15.out).mono ?_); rintro e w28 ⟨rfl, hb⟩; refine ⟨_, rfl, ?_⟩; have n0_ := Aside0.mk (blk_below (g := gb211) (o := .cells #[.int .u64 a0_0, .int .u64 a0_1] 24 (0, 0)) (by (with_reducible repeat (first | apply bN | apply bD | apply bA)); exact BK211.out) hb); have n1_ := Aside0.mk (blk_below (g := gb212) (o := .cells #[.int .u64 a1_0, .int .u64 a1_1] 24 (0, 0)) (by (with_reducible repeat (first | apply bN | apply bD | apply bA)); exact BK212.out) hb); have n2_ := Aside0.mk (below_step (by repeat (first | (with_reducible first | exact HB.out | apply lA | apply lN | apply lD | refine lS ?_ ‹_›) | exact HB.out)) hb); clear BK211; clear BK212; clear HB; have BK211 := n0_; have BK212 := n1_; have HB := n2_; clear n0_ n1_ n2_; (try clear hb); (try clear hb2); (try clear hk); (try clear hi)) | (go_at_call 24; (with_reducible refine (tnum_Any.calls  t217 t218 _ A17.out).mono ?_); rintro e w29 ⟨rfl, hb⟩; have n0_ := Aside0.mk (blk_below (g := gb211) (o := .cells #[.int .u64 a0_0, .int .u64 a0_1] 24 (0, 0)) (by (with_reducible repeat (first | apply bN | apply bD | apply bA)); exact BK211.out) hb); have n1_ := Aside0.mk (blk_below (g := gb212) (o := .cells #[.int .u64 a1_0, .int .u64 a1_1] 24 (0, 0)) (by (with_reducible repeat (first | apply bN | apply bD | apply bA)); exact BK212.out) hb); have n2_ := Aside0.mk (below_step (by repeat (first | (with_reducible first | exact HB.out | apply lA | apply lN | apply lD | refine lS ?_ ‹_›) | exact HB.out)) hb); clear BK211; clear BK212; clear HB; have BK211 := n0_; have BK212 := n1_; have HB := n2_; clear n0_ n1_ n2_; (try clear hb); (try clear hb2); (try clear hk); (try clear hi)) | (go_at_call 19; (with_reducible refine (tnum_Has.calls t217 t218 a2 true _ A18.out).mono ?_); rintro e w30 ⟨rfl, hb⟩; have n0_ := Aside0.mk (blk_below (g := gb211) (o := .cells #[.int .u64 a0_0, .int .u64 a0_1] 24 (0, 0)) (by (with_reducible repeat (first | apply bN | apply bD | apply bA)); exact BK211.out) hb); have n1_ := Aside0.mk (blk_below (g := gb212) (o := .cells #[.int .u64 a1_0, .int .u64 a1_1] 24 (0, 0)) (by (with_reducible repeat (first | apply bN | apply bD | apply bA)); exact BK212.out) hb); have n2_ := Aside0.mk (below_step (by repeat (first | (with_reducible first | exact HB.out | apply lA | apply lN | apply lD | refine lS ?_ ‹_›) | exact HB.out)) hb); clear BK211; clear BK212; clear HB; have BK211 := n0_; have BK212 := n1_; have HB := n2_; clear n0_ n1_ n2_; (try clear hb); (try clear hb2); (try clear hk); (try clear hi)) | (go_at_call 25; (with_reducible refine (tnum_Const.calls a2 t220 t221 _ A20.out).mono ?_); rintro e w31 ⟨rfl, hb⟩; have n0_ := Aside0.mk (blk_below (g := gb211) (o := .cells #[.int .u64 a0_0, .int .u64 a0_1] 24 (0, 0)) (by (with_reducible repeat (first | apply bN | apply bD | apply bA)); exact BK211.out) hb); have n1_ := Aside0.mk (blk_below (g := gb212) (o := .cells #[.int .u64 a1_0, .int .u64 a1_1] 24 (0, 0)) (by (with_reducible repeat (first | apply bN | apply bD | apply bA)); exact BK212.out) hb); have n2_ := Aside0.mk (below_step (by repeat (first | (with_reducible first | exact HB.out | apply lA | apply lN | apply lD | refine lS ?_ ‹_›) | exact HB.out)) hb); clear BK211; clear BK212; clear HB; have BK211 := n0_; have BK212 := n1_; have HB := n2_; clear n0_ n1_ n2_; (try clear hb); (try clear hb2); (try clear hk); (try clear hi)) | (go_at_call 19; (with_reducible refine (tnum_Has.calls t220 t221 a2 true _ A21.out).mono ?_); rintro e w32 ⟨rfl, hb⟩; have n0_ := Aside0.mk (blk_below (g := gb211) (o := .cells #[.int .u64 a0_0, .int .u64 a0_1] 24 (0, 0)) (by (with_reducible repeat (first | apply bN | apply bD | apply bA)); exact BK211.out) hb); have n1_ := Aside0.mk (blk_below (g := gb212) (o := .cells #[.int .u64 a1_0, .int .u64 a1_1] 24 (0, 0)) (by (with_reducible repeat (first | apply bN | apply bD | apply bA)); exact BK212.out) hb); have n2_ := Aside0.mk (below_step (by repeat (first | (with_reducible first | exact HB.out | apply lA | apply lN | apply lD | refine lS ?_ ‹_›) | exact HB.out)) hb); clear BK211; clear BK212; clear HB; have BK211 := n0_; have BK212 := n1_; have HB := n2_; clear n0_ n1_ n2_; (try clear hb); (try clear hb2); (try clear hk); (try clear hi)) | (go_at_call 25; (with_reducible refine (tnum_Const.calls a2 t220 t221 _ A23.out).mono ?_); rintro e w33 ⟨rfl, hb⟩; have n0_ := Aside0.mk (blk_below (g := gb211) (o := .cells #[.int .u64 a0_0, .int .u64 a0_1] 24 (0, 0)) (by (with_reducible repeat (first | apply bN | apply bD | apply bA)); exact BK211.out) hb); have n1_ := Aside0.mk (blk_below (g := gb212) (o := .cells #[.int .u64 a1_0, .int .u64 a1_1] 24 (0, 0)) (by (with_reducible repeat (first | apply bN | apply bD | apply bA)); exact BK212.out) hb); have n2_ := Aside0.mk (below_step (by repeat (first | (with_reducible first | exact HB.out | apply lA | apply lN | apply lD | refine lS ?_ ‹_›) | exact HB.out)) hb); clear BK211; clear BK212; clear HB; have BK211 := n0_; have BK212 := n1_; have HB := n2_; clear n0_ n1_ n2_; (try clear hb); (try clear hb2); (try clear hk); (try clear hi)) | (go_at_call 19; (with_reducible refine (tnum_Has.calls t220 t221 (IntKind.u64.wrap (a2 + 1)) true _ A24.out).mono ?_); rintro e w34 ⟨rfl, hb⟩; have n0_ := Aside0.mk (blk_below (g := gb211) (o := .cells #[.int .u64 a0_0, .int .u64 a0_1] 24 (0, 0)) (by (with_reducible repeat (first | apply bN | apply bD | apply bA)); exact BK211.out) hb); have n1_ := Aside0.mk (blk_below (g := gb212) (o := .cells #[.int .u64 a1_0, .int .u64 a1_1] 24 (0, 0)) (by (with_reducible repeat (first | apply bN | apply bD | apply bA)); exact BK212.out) hb); have n2_ := Aside0.mk (below_step (by repeat (first | (with_reducible first | exact HB.out | apply lA | apply lN | apply lD | refine lS ?_ ‹_›) | exact HB.out)) hb); clear BK211; clear BK212; clear HB; have BK211 := n0_; have BK212 := n1_; have HB := n2_; clear n0_ n1_ n2_; (try clear hb); (try clear hb2); (try clear hk); (try clear hi)))
       go_meet
       case rel => exact ⟨_, (true), (by first | rfl | (simp; done) | (simp [*]; done)), H', ⟨by first | omega | exact Nat.le_refl _⟩, ⟨by (with_reducible repeat (first | apply bN | apply bD | apply bA)); exact BK211.out⟩, ⟨by (with_reducible repeat (first | apply bN | apply bD | apply bA)); exact BK212.out⟩, ⟨by repeat (first | (with_reducible first | exact HB.out | apply lA | apply lN | apply lD | refine lS ?_ ‹_›) | exact HB.out)⟩⟩
      ·
       replace c25 := Bool.eq_false_iff.mpr c25
       subst c25
       have H1 : ((tnum_Has.f a0_0 a0_1 a2).bind fun t226 => (posternlaw14_TnumSets.j0 k a2 t214 t215 (t226 != (t214 == a2)) a0_0 a0_1 a1_0 a1_1)) = some r := by rw [if_neg (show ¬ (false = true) by decide)] at H; exact H
       clear H; have H := H1; clear H1; replace H := Option.bind_eq_some_iff.mp H; obtain ⟨t226, A350, H⟩ := H
       replace H : (posternlaw14_TnumSets.j0 k a2 t214 t215 (t226 != (t214 == a2)) a0_0 a0_1 a1_0 a1_1) = some r := H
       have A35 := Aside0.mk A350; clear A350; have H' := Aside0.mk H
       clear H; have hnb36 := NB211_212.out; have hnc36 := NB212_211.out; have hcz37_0 : w14.cell? ⟨gb211, 0, none⟩ = some (.int .u64 a0_0) := (blk_cell BK211.out 0).trans rfl; have hcz37_1 : w14.cell? ⟨gb211, 1, none⟩ = some (.int .u64 a0_1) := (blk_cell BK211.out 1).trans rfl; have hfz37_0 := blk_frozen BK211.out 0; have hfz37_1 := blk_frozen BK211.out 1
       go_wp2_with (first | ((with_reducible refine gate_callee (f := 19) rfl ?_); refine goesL_ (some 24) rfl rfl Try.func19 (by kernel_rfl) rfl #[.agg #[.int .u64 a0_0, .int .u64 a0_1], .int .u64 t214] rfl (by (try simp only [List.map_toArray, List.map_cons, List.map_nil]); first | done | rfl | (simp only [List.length_drop, List.length_take]; rfl)) ?_; (with_reducible refine (tnum_Has.calls a0_0 a0_1 t214 true _ A15.out).mono ?_); rintro e w38 ⟨rfl, hb⟩; refine ⟨_, rfl, ?_⟩; have n0_ := Aside0.mk (blk_below (g := gb211) (o := .cells #[.int .u64 a0_0, .int .u64 a0_1] 24 (0, 0)) (by (with_reducible repeat (first | apply bN | apply bD | apply bA)); exact BK211.out) hb); have n1_ := Aside0.mk (blk_below (g := gb212) (o := .cells #[.int .u64 a1_0, .int .u64 a1_1] 24 (0, 0)) (by (with_reducible repeat (first | apply bN | apply bD | apply bA)); exact BK212.out) hb); have n2_ := Aside0.mk (below_step (by repeat (first | (with_reducible first | exact HB.out | apply lA | apply lN | apply lD | refine lS ?_ ‹_›) | exact HB.out)) hb); clear BK211; clear BK212; clear HB; have BK211 := n0_; have BK212 := n1_; have HB := n2_; clear n0_ n1_ n2_; (try clear hb); (try clear hb2); (try clear hk); (try clear hi)) | (go_at_call 24; (with_reducible refine (tnum_Any.calls  t217 t218 _ A17.out).mono ?_); rintro e w39 ⟨rfl, hb⟩; have n0_ := Aside0.mk (blk_below (g := gb211) (o := .cells #[.int .u64 a0_0, .int .u64 a0_1] 24 (0, 0)) (by (with_reducible repeat (first | apply bN | apply bD | apply bA)); exact BK211.out) hb); have n1_ := Aside0.mk (blk_below (g := gb212) (o := .cells #[.int .u64 a1_0, .int .u64 a1_1] 24 (0, 0)) (by (with_reducible repeat (first | apply bN | apply bD | apply bA)); exact BK212.out) hb); have n2_ := Aside0.mk (below_step (by repeat (first | (with_reducible first | exact HB.out | apply lA | apply lN | apply lD | refine lS ?_ ‹_›) | exact HB.out)) hb); clear BK211; clear BK212; clear HB; have BK211 := n0_; have BK212 := n1_; have HB := n2_; clear n0_ n1_ n2_; (try clear hb); (try clear hb2); (try clear hk); (try clear hi)) | (go_at_call 19; (with_reducible refine (tnum_Has.calls t217 t218 a2 true _ A18.out).mono ?_); rintro e w40 ⟨rfl, hb⟩; have n0_ := Aside0.mk (blk_below (g := gb211) (o := .cells #[.int .u64 a0_0, .int .u64 a0_1] 24 (0, 0)) (by (with_reducible repeat (first | apply bN | apply bD | apply bA)); exact BK211.out) hb); have n1_ := Aside0.mk (blk_below (g := gb212) (o := .cells #[.int .u64 a1_0, .int .u64 a1_1] 24 (0, 0)) (by (with_reducible repeat (first | apply bN | apply bD | apply bA)); exact BK212.out) hb); have n2_ := Aside0.mk (below_step (by repeat (first | (with_reducible first | exact HB.out | apply lA | apply lN | apply lD | refine lS ?_ ‹_›) | exact HB.out)) hb); clear BK211; clear BK212; clear HB; have BK211 := n0_; have BK212 := n1_; have HB := n2_; clear n0_ n1_ n2_; (try clear hb); (try clear hb2); (try clear hk); (try clear hi)) | (go_at_call 25; (with_reducible refine (tnum_Const.calls a2 t220 t221 _ A20.out).mono ?_); rintro e w41 ⟨rfl, hb⟩; have n0_ := Aside0.mk (blk_below (g := gb211) (o := .cells #[.int .u64 a0_0, .int .u64 a0_1] 24 (0, 0)) (by (with_reducible repeat (first | apply bN | apply bD | apply bA)); exact BK211.out) hb); have n1_ := Aside0.mk (blk_below (g := gb212) (o := .cells #[.int .u64 a1_0, .int .u64 a1_1] 24 (0, 0)) (by (with_reducible repeat (first | apply bN | apply bD | apply bA)); exact BK212.out) hb); have n2_ := Aside0.mk (below_step (by repeat (first | (with_reducible first | exact HB.out | apply lA | apply lN | apply lD | refine lS ?_ ‹_›) | exact HB.out)) hb); clear BK211; clear BK212; clear HB; have BK211 := n0_; have BK212 := n1_; have HB := n2_; clear n0_ n1_ n2_; (try clear hb); (try clear hb2); (try clear hk); (try clear hi)) | (go_at_call 19; (with_reducible refine (tnum_Has.calls t220 t221 a2 true _ A21.out).mono ?_); rintro e w42 ⟨rfl, hb⟩; have n0_ := Aside0.mk (blk_below (g := gb211) (o := .cells #[.int .u64 a0_0, .int .u64 a0_1] 24 (0, 0)) (by (with_reducible repeat (first | apply bN | apply bD | apply bA)); exact BK211.out) hb); have n1_ := Aside0.mk (blk_below (g := gb212) (o := .cells #[.int .u64 a1_0, .int .u64 a1_1] 24 (0, 0)) (by (with_reducible repeat (first | apply bN | apply bD | apply bA)); exact BK212.out) hb); have n2_ := Aside0.mk (below_step (by repeat (first | (with_reducible first | exact HB.out | apply lA | apply lN | apply lD | refine lS ?_ ‹_›) | exact HB.out)) hb); clear BK211; clear BK212; clear HB; have BK211 := n0_; have BK212 := n1_; have HB := n2_; clear n0_ n1_ n2_; (try clear hb); (try clear hb2); (try clear hk); (try clear hi)) | (go_at_call 25; (with_reducible refine (tnum_Const.calls a2 t220 t221 _ A23.out).mono ?_); rintro e w43 ⟨rfl, hb⟩; have n0_ := Aside0.mk (blk_below (g := gb211) (o := .cells #[.int .u64 a0_0, .int .u64 a0_1] 24 (0, 0)) (by (with_reducible repeat (first | apply bN | apply bD | apply bA)); exact BK211.out) hb); have n1_ := Aside0.mk (blk_below (g := gb212) (o := .cells #[.int .u64 a1_0, .int .u64 a1_1] 24 (0, 0)) (by (with_reducible repeat (first | apply bN | apply bD | apply bA)); exact BK212.out) hb); have n2_ := Aside0.mk (below_step (by repeat (first | (with_reducible first | exact HB.out | apply lA | apply lN | apply lD | refine lS ?_ ‹_›) | exact HB.out)) hb); clear BK211; clear BK212; clear HB; have BK211 := n0_; have BK212 := n1_; have HB := n2_; clear n0_ n1_ n2_; (try clear hb); (try clear hb2); (try clear hk); (try clear hi)) | (go_at_call 19; (with_reducible refine (tnum_Has.calls t220 t221 (IntKind.u64.wrap (a2 + 1)) false _ A24.out).mono ?_); rintro e w44 ⟨rfl, hb⟩; have n0_ := Aside0.mk (blk_below (g := gb211) (o := .cells #[.int .u64 a0_0, .int .u64 a0_1] 24 (0, 0)) (by (with_reducible repeat (first | apply bN | apply bD | apply bA)); exact BK211.out) hb); have n1_ := Aside0.mk (blk_below (g := gb212) (o := .cells #[.int .u64 a1_0, .int .u64 a1_1] 24 (0, 0)) (by (with_reducible repeat (first | apply bN | apply bD | apply bA)); exact BK212.out) hb); have n2_ := Aside0.mk (below_step (by repeat (first | (with_reducible first | exact HB.out | apply lA | apply lN | apply lD | refine lS ?_ ‹_›) | exact HB.out)) hb); clear BK211; clear BK212; clear HB; have BK211 := n0_; have BK212 := n1_; have HB := n2_; clear n0_ n1_ n2_; (try clear hb); (try clear hb2); (try clear hk); (try clear hi); have hcz45_0 : w44.cell? ⟨gb211, 0, none⟩ = some (.int .u64 a0_0) := (blk_cell BK211.out 0).trans rfl; have hcz45_1 : w44.cell? ⟨gb211, 1, none⟩ = some (.int .u64 a0_1) := (blk_cell BK211.out 1).trans rfl; have hfz45_0 := blk_frozen BK211.out 0; have hfz45_1 := blk_frozen BK211.out 1) | (go_at_call 19; (with_reducible refine (tnum_Has.calls a0_0 a0_1 a2 t226 _ A35.out).mono ?_); rintro e w46 ⟨rfl, hb⟩; have n0_ := Aside0.mk (blk_below (g := gb211) (o := .cells #[.int .u64 a0_0, .int .u64 a0_1] 24 (0, 0)) (by (with_reducible repeat (first | apply bN | apply bD | apply bA)); exact BK211.out) hb); have n1_ := Aside0.mk (blk_below (g := gb212) (o := .cells #[.int .u64 a1_0, .int .u64 a1_1] 24 (0, 0)) (by (with_reducible repeat (first | apply bN | apply bD | apply bA)); exact BK212.out) hb); have n2_ := Aside0.mk (below_step (by repeat (first | (with_reducible first | exact HB.out | apply lA | apply lN | apply lD | refine lS ?_ ‹_›) | exact HB.out)) hb); clear BK211; clear BK212; clear HB; have BK211 := n0_; have BK212 := n1_; have HB := n2_; clear n0_ n1_ n2_; (try clear hb); (try clear hb2); (try clear hk); (try clear hi)))
       go_meet
       case rel => exact ⟨_, ((t226 != (t214 == a2))), (by first | rfl | (simp; done) | (simp [*]; done)), H', ⟨by first | omega | exact Nat.le_refl _⟩, ⟨by (with_reducible repeat (first | apply bN | apply bD | apply bA)); exact BK211.out⟩, ⟨by (with_reducible repeat (first | apply bN | apply bD | apply bA)); exact BK212.out⟩, ⟨by repeat (first | (with_reducible first | exact HB.out | apply lA | apply lN | apply lD | refine lS ?_ ‹_›) | exact HB.out)⟩⟩
     ·
      replace c22 := Bool.eq_false_iff.mpr c22
      subst c22
      have H1 : (posternlaw14_TnumSets.j0 k a2 t214 t215 true a0_0 a0_1 a1_0 a1_1) = some r := by rw [if_neg (show ¬ (false = true) by decide)] at H; exact H
      clear H; have H := H1; clear H1; have H' := Aside0.mk H
      clear H; have hnb47 := NB211_212.out; have hnc47 := NB212_211.out; have hcz48_0 : w14.cell? ⟨gb211, 0, none⟩ = some (.int .u64 a0_0) := (blk_cell BK211.out 0).trans rfl; have hcz48_1 : w14.cell? ⟨gb211, 1, none⟩ = some (.int .u64 a0_1) := (blk_cell BK211.out 1).trans rfl; have hfz48_0 := blk_frozen BK211.out 0; have hfz48_1 := blk_frozen BK211.out 1
      go_wp2_with (first | ((with_reducible refine gate_callee (f := 19) rfl ?_); refine goesL_ (some 24) rfl rfl Try.func19 (by kernel_rfl) rfl #[.agg #[.int .u64 a0_0, .int .u64 a0_1], .int .u64 t214] rfl (by (try simp only [List.map_toArray, List.map_cons, List.map_nil]); first | done | rfl | (simp only [List.length_drop, List.length_take]; rfl)) ?_; (with_reducible refine (tnum_Has.calls a0_0 a0_1 t214 true _ A15.out).mono ?_); rintro e w49 ⟨rfl, hb⟩; refine ⟨_, rfl, ?_⟩; have n0_ := Aside0.mk (blk_below (g := gb211) (o := .cells #[.int .u64 a0_0, .int .u64 a0_1] 24 (0, 0)) (by (with_reducible repeat (first | apply bN | apply bD | apply bA)); exact BK211.out) hb); have n1_ := Aside0.mk (blk_below (g := gb212) (o := .cells #[.int .u64 a1_0, .int .u64 a1_1] 24 (0, 0)) (by (with_reducible repeat (first | apply bN | apply bD | apply bA)); exact BK212.out) hb); have n2_ := Aside0.mk (below_step (by repeat (first | (with_reducible first | exact HB.out | apply lA | apply lN | apply lD | refine lS ?_ ‹_›) | exact HB.out)) hb); clear BK211; clear BK212; clear HB; have BK211 := n0_; have BK212 := n1_; have HB := n2_; clear n0_ n1_ n2_; (try clear hb); (try clear hb2); (try clear hk); (try clear hi)) | (go_at_call 24; (with_reducible refine (tnum_Any.calls  t217 t218 _ A17.out).mono ?_); rintro e w50 ⟨rfl, hb⟩; have n0_ := Aside0.mk (blk_below (g := gb211) (o := .cells #[.int .u64 a0_0, .int .u64 a0_1] 24 (0, 0)) (by (with_reducible repeat (first | apply bN | apply bD | apply bA)); exact BK211.out) hb); have n1_ := Aside0.mk (blk_below (g := gb212) (o := .cells #[.int .u64 a1_0, .int .u64 a1_1] 24 (0, 0)) (by (with_reducible repeat (first | apply bN | apply bD | apply bA)); exact BK212.out) hb); have n2_ := Aside0.mk (below_step (by repeat (first | (with_reducible first | exact HB.out | apply lA | apply lN | apply lD | refine lS ?_ ‹_›) | exact HB.out)) hb); clear BK211; clear BK212; clear HB; have BK211 := n0_; have BK212 := n1_; have HB := n2_; clear n0_ n1_ n2_; (try clear hb); (try clear hb2); (try clear hk); (try clear hi)) | (go_at_call 19; (with_reducible refine (tnum_Has.calls t217 t218 a2 true _ A18.out).mono ?_); rintro e w51 ⟨rfl, hb⟩; have n0_ := Aside0.mk (blk_below (g := gb211) (o := .cells #[.int .u64 a0_0, .int .u64 a0_1] 24 (0, 0)) (by (with_reducible repeat (first | apply bN | apply bD | apply bA)); exact BK211.out) hb); have n1_ := Aside0.mk (blk_below (g := gb212) (o := .cells #[.int .u64 a1_0, .int .u64 a1_1] 24 (0, 0)) (by (with_reducible repeat (first | apply bN | apply bD | apply bA)); exact BK212.out) hb); have n2_ := Aside0.mk (below_step (by repeat (first | (with_reducible first | exact HB.out | apply lA | apply lN | apply lD | refine lS ?_ ‹_›) | exact HB.out)) hb); clear BK211; clear BK212; clear HB; have BK211 := n0_; have BK212 := n1_; have HB := n2_; clear n0_ n1_ n2_; (try clear hb); (try clear hb2); (try clear hk); (try clear hi)) | (go_at_call 25; (with_reducible refine (tnum_Const.calls a2 t220 t221 _ A20.out).mono ?_); rintro e w52 ⟨rfl, hb⟩; have n0_ := Aside0.mk (blk_below (g := gb211) (o := .cells #[.int .u64 a0_0, .int .u64 a0_1] 24 (0, 0)) (by (with_reducible repeat (first | apply bN | apply bD | apply bA)); exact BK211.out) hb); have n1_ := Aside0.mk (blk_below (g := gb212) (o := .cells #[.int .u64 a1_0, .int .u64 a1_1] 24 (0, 0)) (by (with_reducible repeat (first | apply bN | apply bD | apply bA)); exact BK212.out) hb); have n2_ := Aside0.mk (below_step (by repeat (first | (with_reducible first | exact HB.out | apply lA | apply lN | apply lD | refine lS ?_ ‹_›) | exact HB.out)) hb); clear BK211; clear BK212; clear HB; have BK211 := n0_; have BK212 := n1_; have HB := n2_; clear n0_ n1_ n2_; (try clear hb); (try clear hb2); (try clear hk); (try clear hi)) | (go_at_call 19; (with_reducible refine (tnum_Has.calls t220 t221 a2 false _ A21.out).mono ?_); rintro e w53 ⟨rfl, hb⟩; have n0_ := Aside0.mk (blk_below (g := gb211) (o := .cells #[.int .u64 a0_0, .int .u64 a0_1] 24 (0, 0)) (by (with_reducible repeat (first | apply bN | apply bD | apply bA)); exact BK211.out) hb); have n1_ := Aside0.mk (blk_below (g := gb212) (o := .cells #[.int .u64 a1_0, .int .u64 a1_1] 24 (0, 0)) (by (with_reducible repeat (first | apply bN | apply bD | apply bA)); exact BK212.out) hb); have n2_ := Aside0.mk (below_step (by repeat (first | (with_reducible first | exact HB.out | apply lA | apply lN | apply lD | refine lS ?_ ‹_›) | exact HB.out)) hb); clear BK211; clear BK212; clear HB; have BK211 := n0_; have BK212 := n1_; have HB := n2_; clear n0_ n1_ n2_; (try clear hb); (try clear hb2); (try clear hk); (try clear hi)))
      go_meet
      case rel => exact ⟨_, (true), (by first | rfl | (simp; done) | (simp [*]; done)), H', ⟨by first | omega | exact Nat.le_refl _⟩, ⟨by (with_reducible repeat (first | apply bN | apply bD | apply bA)); exact BK211.out⟩, ⟨by (with_reducible repeat (first | apply bN | apply bD | apply bA)); exact BK212.out⟩, ⟨by repeat (first | (with_reducible first | exact HB.out | apply lA | apply lN | apply lD | refine lS ?_ ‹_›) | exact HB.out)⟩⟩
    ·
     replace c19 := Bool.eq_false_iff.mpr c19
     subst c19
     have H1 : (posternlaw14_TnumSets.j0 k a2 t214 t215 true a0_0 a0_1 a1_0 a1_1) = some r := by rw [if_neg (show ¬ (false = true) by decide)] at H; exact H
     clear H; have H := H1; clear H1; have H' := Aside0.mk H
     clear H; have hnb54 := NB211_212.out; have hnc54 := NB212_211.out; have hcz55_0 : w14.cell? ⟨gb211, 0, none⟩ = some (.int .u64 a0_0) := (blk_cell BK211.out 0).trans rfl; have hcz55_1 : w14.cell? ⟨gb211, 1, none⟩ = some (.int .u64 a0_1) := (blk_cell BK211.out 1).trans rfl; have hfz55_0 := blk_frozen BK211.out 0; have hfz55_1 := blk_frozen BK211.out 1
     go_wp2_with (first | ((with_reducible refine gate_callee (f := 19) rfl ?_); refine goesL_ (some 24) rfl rfl Try.func19 (by kernel_rfl) rfl #[.agg #[.int .u64 a0_0, .int .u64 a0_1], .int .u64 t214] rfl (by (try simp only [List.map_toArray, List.map_cons, List.map_nil]); first | done | rfl | (simp only [List.length_drop, List.length_take]; rfl)) ?_; (with_reducible refine (tnum_Has.calls a0_0 a0_1 t214 true _ A15.out).mono ?_); rintro e w56 ⟨rfl, hb⟩; refine ⟨_, rfl, ?_⟩; have n0_ := Aside0.mk (blk_below (g := gb211) (o := .cells #[.int .u64 a0_0, .int .u64 a0_1] 24 (0, 0)) (by (with_reducible repeat (first | apply bN | apply bD | apply bA)); exact BK211.out) hb); have n1_ := Aside0.mk (blk_below (g := gb212) (o := .cells #[.int .u64 a1_0, .int .u64 a1_1] 24 (0, 0)) (by (with_reducible repeat (first | apply bN | apply bD | apply bA)); exact BK212.out) hb); have n2_ := Aside0.mk (below_step (by repeat (first | (with_reducible first | exact HB.out | apply lA | apply lN | apply lD | refine lS ?_ ‹_›) | exact HB.out)) hb); clear BK211; clear BK212; clear HB; have BK211 := n0_; have BK212 := n1_; have HB := n2_; clear n0_ n1_ n2_; (try clear hb); (try clear hb2); (try clear hk); (try clear hi)) | (go_at_call 24; (with_reducible refine (tnum_Any.calls  t217 t218 _ A17.out).mono ?_); rintro e w57 ⟨rfl, hb⟩; have n0_ := Aside0.mk (blk_below (g := gb211) (o := .cells #[.int .u64 a0_0, .int .u64 a0_1] 24 (0, 0)) (by (with_reducible repeat (first | apply bN | apply bD | apply bA)); exact BK211.out) hb); have n1_ := Aside0.mk (blk_below (g := gb212) (o := .cells #[.int .u64 a1_0, .int .u64 a1_1] 24 (0, 0)) (by (with_reducible repeat (first | apply bN | apply bD | apply bA)); exact BK212.out) hb); have n2_ := Aside0.mk (below_step (by repeat (first | (with_reducible first | exact HB.out | apply lA | apply lN | apply lD | refine lS ?_ ‹_›) | exact HB.out)) hb); clear BK211; clear BK212; clear HB; have BK211 := n0_; have BK212 := n1_; have HB := n2_; clear n0_ n1_ n2_; (try clear hb); (try clear hb2); (try clear hk); (try clear hi)) | (go_at_call 19; (with_reducible refine (tnum_Has.calls t217 t218 a2 false _ A18.out).mono ?_); rintro e w58 ⟨rfl, hb⟩; have n0_ := Aside0.mk (blk_below (g := gb211) (o := .cells #[.int .u64 a0_0, .int .u64 a0_1] 24 (0, 0)) (by (with_reducible repeat (first | apply bN | apply bD | apply bA)); exact BK211.out) hb); have n1_ := Aside0.mk (blk_below (g := gb212) (o := .cells #[.int .u64 a1_0, .int .u64 a1_1] 24 (0, 0)) (by (with_reducible repeat (first | apply bN | apply bD | apply bA)); exact BK212.out) hb); have n2_ := Aside0.mk (below_step (by repeat (first | (with_reducible first | exact HB.out | apply lA | apply lN | apply lD | refine lS ?_ ‹_›) | exact HB.out)) hb); clear BK211; clear BK212; clear HB; have BK211 := n0_; have BK212 := n1_; have HB := n2_; clear n0_ n1_ n2_; (try clear hb); (try clear hb2); (try clear hk); (try clear hi)))
     go_meet
     case rel => exact ⟨_, (true), (by first | rfl | (simp; done) | (simp [*]; done)), H', ⟨by first | omega | exact Nat.le_refl _⟩, ⟨by (with_reducible repeat (first | apply bN | apply bD | apply bA)); exact BK211.out⟩, ⟨by (with_reducible repeat (first | apply bN | apply bD | apply bA)); exact BK212.out⟩, ⟨by repeat (first | (with_reducible first | exact HB.out | apply lA | apply lN | apply lD | refine lS ?_ ‹_›) | exact HB.out)⟩⟩
   ·
    replace c16 := Bool.eq_false_iff.mpr c16
    subst c16
    have H1 : (posternlaw14_TnumSets.j0 k a2 t214 t215 true a0_0 a0_1 a1_0 a1_1) = some r := by rw [if_neg (show ¬ (false = true) by decide)] at H; exact H
    clear H; have H := H1; clear H1; have H' := Aside0.mk H
    clear H; have hnb59 := NB211_212.out; have hnc59 := NB212_211.out; have hcz60_0 : w14.cell? ⟨gb211, 0, none⟩ = some (.int .u64 a0_0) := (blk_cell BK211.out 0).trans rfl; have hcz60_1 : w14.cell? ⟨gb211, 1, none⟩ = some (.int .u64 a0_1) := (blk_cell BK211.out 1).trans rfl; have hfz60_0 := blk_frozen BK211.out 0; have hfz60_1 := blk_frozen BK211.out 1
    go_wp2_with (first | ((with_reducible refine gate_callee (f := 19) rfl ?_); refine goesL_ (some 24) rfl rfl Try.func19 (by kernel_rfl) rfl #[.agg #[.int .u64 a0_0, .int .u64 a0_1], .int .u64 t214] rfl (by (try simp only [List.map_toArray, List.map_cons, List.map_nil]); first | done | rfl | (simp only [List.length_drop, List.length_take]; rfl)) ?_; (with_reducible refine (tnum_Has.calls a0_0 a0_1 t214 false _ A15.out).mono ?_); rintro e w61 ⟨rfl, hb⟩; refine ⟨_, rfl, ?_⟩; have n0_ := Aside0.mk (blk_below (g := gb211) (o := .cells #[.int .u64 a0_0, .int .u64 a0_1] 24 (0, 0)) (by (with_reducible repeat (first | apply bN | apply bD | apply bA)); exact BK211.out) hb); have n1_ := Aside0.mk (blk_below (g := gb212) (o := .cells #[.int .u64 a1_0, .int .u64 a1_1] 24 (0, 0)) (by (with_reducible repeat (first | apply bN | apply bD | apply bA)); exact BK212.out) hb); have n2_ := Aside0.mk (below_step (by repeat (first | (with_reducible first | exact HB.out | apply lA | apply lN | apply lD | refine lS ?_ ‹_›) | exact HB.out)) hb); clear BK211; clear BK212; clear HB; have BK211 := n0_; have BK212 := n1_; have HB := n2_; clear n0_ n1_ n2_; (try clear hb); (try clear hb2); (try clear hk); (try clear hi)))
    go_meet
    case rel => exact ⟨_, (true), (by first | rfl | (simp; done) | (simp [*]; done)), H', ⟨by first | omega | exact Nat.le_refl _⟩, ⟨by (with_reducible repeat (first | apply bN | apply bD | apply bA)); exact BK211.out⟩, ⟨by (with_reducible repeat (first | apply bN | apply bD | apply bA)); exact BK212.out⟩, ⟨by repeat (first | (with_reducible first | exact HB.out | apply lA | apply lN | apply lD | refine lS ?_ ‹_›) | exact HB.out)⟩⟩
  case rest => as_aux_lemma =>
   clear HC8; (try clear c1); (try clear c2); (try clear p2); (try clear c3); (try clear c4); (try clear c5); (try clear c7); (try clear c13); (try clear c16); (try clear c17); (try clear c19); (try clear c22); (try clear c25); (try clear c26); (try clear c36); (try clear c47); (try clear c54); (try clear c59); (try clear hcz27_0); (try clear hcz27_1); (try clear hcz37_0); (try clear hcz37_1); (try clear hcz45_0); (try clear hcz45_1); (try clear hcz48_0); (try clear hcz48_1); (try clear hcz55_0); (try clear hcz55_1); (try clear hcz60_0); (try clear hcz60_1); (try clear hfz27_0); (try clear hfz27_1); (try clear hfz37_0); (try clear hfz37_1); (try clear hfz45_0); (try clear hfz45_1); (try clear hfz48_0); (try clear hfz48_1); (try clear hfz55_0); (try clear hfz55_1); (try clear hfz60_0); (try clear hfz60_1)
   obtain ⟨kq, x54_7, rfl, HA, HJ7, BK211, BK212, HB⟩ := hcut
   cases kq with
   | zero => exact absurd HA.out (by simp [posternlaw14_TnumSets.j0])
   | succ kj7 =>
    have H := HA.out
    clear HA
    simp only [posternlaw14_TnumSets.j0] at H
    by_cases c62 : x54_7 = true
    ·
     subst c62
     have H1 : (some false) = some r := by rw [if_pos rfl] at H; exact H
     clear H; have H := H1; clear H1
     exact absurd (H.trans (congrArg some hr_.out)) (by simp)
    ·
     replace c62 := Bool.eq_false_iff.mpr c62
     subst c62
     have H1 : (if (Go.bits .andNot .u64 a0_1 a1_1) = 0 then ((posternref14_Member.f a1_0 a1_1 t214).bind fun t227 => (posternlaw14_TnumSets.j1 kj7 a2 t214 t215 (t227 == t214) a0_0 a0_1 a1_0 a1_1)) else (posternlaw14_TnumSets.j1 kj7 a2 t214 t215 false a0_0 a0_1 a1_0 a1_1)) = some r := by rw [if_neg (show ¬ (false = true) by decide)] at H; exact H
     clear H; have H := H1; clear H1
     have HC63 := Aside0.mk H
     clear H
     go_upto_region 6 with (fail)
     go_cut [9] (fun v9 wc => ∃ (kq : Nat) (x9_62 : Bool), v9 = .bool x9_62 ∧ Aside0 (posternlaw14_TnumSets.j1 kq a2 t214 t215 x9_62 a0_0 a0_1 a1_0 a1_1 = some r) ∧ Aside0 (kq ≤ kj7) ∧ Aside0 (wc.heap[gb211]? = some (.cells #[.int .u64 a0_0, .int .u64 a0_1] 24 (0, 0))) ∧ Aside0 (wc.heap[gb212]? = some (.cells #[.int .u64 a1_0, .int .u64 a1_1] 24 (0, 0))) ∧ Aside0 (Below w.heap.size w wc))
     case first => as_aux_lemma =>
      have H := HC63.out
      clear HC63
      by_cases c64 : (Go.bits .andNot .u64 a0_1 a1_1) = 0
      ·
       rw [if_pos c64] at H
       have c64b0 : ((Go.bits .andNot .u64 a0_1 a1_1) == 0) = true := beq_iff_eq.mpr c64; have c64b1 : ((Go.bits .andNot .u64 a0_1 a1_1) != 0) = false := bne_eq_false_iff_eq.mpr c64; clear c64
       (first | rw [c64b0] | (simp only [i64_w, i32_w]; rw [c64b0]) | skip)
       replace H := Option.bind_eq_some_iff.mp H; obtain ⟨t227, A650, H⟩ := H
       replace H : (posternlaw14_TnumSets.j1 kj7 a2 t214 t215 (t227 == t214) a0_0 a0_1 a1_0 a1_1) = some r := H
       have A65 := Aside0.mk A650; clear A650; have H' := Aside0.mk H
       clear H; have hnb66 := NB211_212.out; have hnc66 := NB212_211.out; have hcz67_0 : wc.cell? ⟨gb211, 0, none⟩ = some (.int .u64 a0_0) := (blk_cell BK211.out 0).trans rfl; have hcz67_1 : wc.cell? ⟨gb211, 1, none⟩ = some (.int .u64 a0_1) := (blk_cell BK211.out 1).trans rfl; have hfz67_0 := blk_frozen BK211.out 0; have hfz67_1 := blk_frozen BK211.out 1; have hcz68_0 : wc.cell? ⟨gb212, 0, none⟩ = some (.int .u64 a1_0) := (blk_cell BK212.out 0).trans rfl; have hcz68_1 : wc.cell? ⟨gb212, 1, none⟩ = some (.int .u64 a1_1) := (blk_cell BK212.out 1).trans rfl; have hfz68_0 := blk_frozen BK212.out 0; have hfz68_1 := blk_frozen BK212.out 1
       go_wp2_with (first | (go_at_call 17; (with_reducible refine (posternref14_Member.calls a1_0 a1_1 t214 t227 _ A65.out).mono ?_); rintro e w69 ⟨rfl, hb⟩; have n0_ := Aside0.mk (blk_below (g := gb211) (o := .cells #[.int .u64 a0_0, .int .u64 a0_1] 24 (0, 0)) (by (with_reducible repeat (first | apply bN | apply bD | apply bA)); exact BK211.out) hb); have n1_ := Aside0.mk (blk_below (g := gb212) (o := .cells #[.int .u64 a1_0, .int .u64 a1_1] 24 (0, 0)) (by (with_reducible repeat (first | apply bN | apply bD | apply bA)); exact BK212.out) hb); have n2_ := Aside0.mk (below_step (by repeat (first | (with_reducible first | exact HB.out | apply lA | apply lN | apply lD | refine lS ?_ ‹_›) | exact HB.out)) hb); clear BK211; clear BK212; clear HB; have BK211 := n0_; have BK212 := n1_; have HB := n2_; clear n0_ n1_ n2_; (try clear hb); (try clear hb2); (try clear hk); (try clear hi)))
       go_meet
       case rel => exact ⟨_, ((t227 == t214)), (by first | rfl | (simp; done) | (simp [*]; done)), H', ⟨by have := HJ7.out; first | omega | exact Nat.le_refl _⟩, ⟨by (with_reducible repeat (first | apply bN | apply bD | apply bA)); exact BK211.out⟩, ⟨by (with_reducible repeat (first | apply bN | apply bD | apply bA)); exact BK212.out⟩, ⟨by repeat (first | (with_reducible first | exact HB.out | apply lA | apply lN | apply lD | refine lS ?_ ‹_›) | exact HB.out)⟩⟩
      ·
       rw [if_neg c64] at H
       have c64b0 : ((Go.bits .andNot .u64 a0_1 a1_1) == 0) = false := beq_eq_false_iff_ne.mpr c64; have c64b1 : ((Go.bits .andNot .u64 a0_1 a1_1) != 0) = true := bne_iff_ne.mpr c64
       (first | rw [c64b0] | (simp only [i64_w, i32_w]; rw [c64b0]) | skip)
       have H' := Aside0.mk H
       clear H; have hnb70 := NB211_212.out; have hnc70 := NB212_211.out; have hcz71_0 : wc.cell? ⟨gb211, 0, none⟩ = some (.int .u64 a0_0) := (blk_cell BK211.out 0).trans rfl; have hcz71_1 : wc.cell? ⟨gb211, 1, none⟩ = some (.int .u64 a0_1) := (blk_cell BK211.out 1).trans rfl; have hfz71_0 := blk_frozen BK211.out 0; have hfz71_1 := blk_frozen BK211.out 1; have hcz72_0 : wc.cell? ⟨gb212, 0, none⟩ = some (.int .u64 a1_0) := (blk_cell BK212.out 0).trans rfl; have hcz72_1 : wc.cell? ⟨gb212, 1, none⟩ = some (.int .u64 a1_1) := (blk_cell BK212.out 1).trans rfl; have hfz72_0 := blk_frozen BK212.out 0; have hfz72_1 := blk_frozen BK212.out 1
       go_wp2
       go_meet
       case rel => exact ⟨_, (false), (by first | rfl | (simp; done) | (simp [*]; done)), H', ⟨by have := HJ7.out; first | omega | exact Nat.le_refl _⟩, ⟨by (with_reducible repeat (first | apply bN | apply bD | apply bA)); exact BK211.out⟩, ⟨by (with_reducible repeat (first | apply bN | apply bD | apply bA)); exact BK212.out⟩, ⟨by repeat (first | (with_reducible first | exact HB.out | apply lA | apply lN | apply lD | refine lS ?_ ‹_›) | exact HB.out)⟩⟩
     case rest => as_aux_lemma =>
      clear HC63; (try clear c1); (try clear c2); (try clear p2); (try clear c3); (try clear c4); (try clear c5); (try clear c6); (try clear c7); (try clear c13); (try clear c16); (try clear c17); (try clear c19); (try clear c22); (try clear c25); (try clear c26); (try clear c36); (try clear c47); (try clear c54); (try clear c59); (try clear c62); (try clear c64); (try clear c64b0); (try clear c64b1); (try clear c66); (try clear c70); (try clear hcz27_0); (try clear hcz27_1); (try clear hcz37_0); (try clear hcz37_1); (try clear hcz45_0); (try clear hcz45_1); (try clear hcz48_0); (try clear hcz48_1); (try clear hcz55_0); (try clear hcz55_1); (try clear hcz60_0); (try clear hcz60_1); (try clear hcz67_0); (try clear hcz67_1); (try clear hcz68_0); (try clear hcz68_1); (try clear hcz71_0); (try clear hcz71_1); (try clear hcz72_0); (try clear hcz72_1); (try clear hfz27_0); (try clear hfz27_1); (try clear hfz37_0); (try clear hfz37_1); (try clear hfz45_0); (try clear hfz45_1); (try clear hfz48_0); (try clear hfz48_1); (try clear hfz55_0); (try clear hfz55_1); (try clear hfz60_0); (try clear hfz60_1); (try clear hfz67_0); (try clear hfz67_1); (try clear hfz68_0); (try clear hfz68_1); (try clear hfz71_0); (try clear hfz71_1); (try clear hfz72_0); (try clear hfz72_1); (try clear p2)
      obtain ⟨kq, x9_62, rfl, HA, HJ62, BK211, BK212, HB⟩ := hcut
      cases kq with
      | zero => exact absurd HA.out (by simp [posternlaw14_TnumSets.j1])
      | succ kj62 =>
       have H := HA.out
       clear HA
       simp only [posternlaw14_TnumSets.j1] at H
       replace H := Option.bind_eq_some_iff.mp H; obtain ⟨⟨t228, t229⟩, A730, H⟩ := H
       replace H : ((tnum_Meet.f a0_0 a0_1 a1_0 a1_1).bind fun bt231 => ((tnum_In.f a0_0 a0_1 a1_0 a1_1).bind fun t235 => (if (t235 != x9_62) = true then (posternlaw14_TnumSets.j2 kj62 a2 bt231.2.2 true a0_0 a0_1 a1_0 a1_1 t228 t229 bt231.1 bt231.2.1) else ((tnum_In.f a0_0 a0_1 t228 t229).bind fun t236 => (if t236 = true then ((tnum_In.f a1_0 a1_1 t228 t229).bind fun t237 => (if t237 = true then ((posternlaw14_good.f t228 t229).bind fun t238 => (if t238 = true then ((posternlaw14_good.f bt231.1 bt231.2.1).bind fun t239 => (if t239 = true then ((tnum_Has.f t228 t229 t214).bind fun t240 => (if t240 = true then ((tnum_Has.f t228 t229 t215).bind fun t241 => (posternlaw14_TnumSets.j2 kj62 a2 bt231.2.2 (!t241) a0_0 a0_1 a1_0 a1_1 t228 t229 bt231.1 bt231.2.1)) else (posternlaw14_TnumSets.j2 kj62 a2 bt231.2.2 true a0_0 a0_1 a1_0 a1_1 t228 t229 bt231.1 bt231.2.1))) else (posternlaw14_TnumSets.j2 kj62 a2 bt231.2.2 true a0_0 a0_1 a1_0 a1_1 t228 t229 bt231.1 bt231.2.1))) else (posternlaw14_TnumSets.j2 kj62 a2 bt231.2.2 true a0_0 a0_1 a1_0 a1_1 t228 t229 bt231.1 bt231.2.1))) else (posternlaw14_TnumSets.j2 kj62 a2 bt231.2.2 true a0_0 a0_1 a1_0 a1_1 t228 t229 bt231.1 bt231.2.1))) else (posternlaw14_TnumSets.j2 kj62 a2 bt231.2.2 true a0_0 a0_1 a1_0 a1_1 t228 t229 bt231.1 bt231.2.1)))))) = some r := H
       have A73 := Aside0.mk A730; clear A730; replace H := Option.bind_eq_some_iff.mp H; obtain ⟨⟨t231, t232, t233⟩, A740, H⟩ := H
       replace H : ((tnum_In.f a0_0 a0_1 a1_0 a1_1).bind fun t235 => (if (t235 != x9_62) = true then (posternlaw14_TnumSets.j2 kj62 a2 t233 true a0_0 a0_1 a1_0 a1_1 t228 t229 t231 t232) else ((tnum_In.f a0_0 a0_1 t228 t229).bind fun t236 => (if t236 = true then ((tnum_In.f a1_0 a1_1 t228 t229).bind fun t237 => (if t237 = true then ((posternlaw14_good.f t228 t229).bind fun t238 => (if t238 = true then ((posternlaw14_good.f t231 t232).bind fun t239 => (if t239 = true then ((tnum_Has.f t228 t229 t214).bind fun t240 => (if t240 = true then ((tnum_Has.f t228 t229 t215).bind fun t241 => (posternlaw14_TnumSets.j2 kj62 a2 t233 (!t241) a0_0 a0_1 a1_0 a1_1 t228 t229 t231 t232)) else (posternlaw14_TnumSets.j2 kj62 a2 t233 true a0_0 a0_1 a1_0 a1_1 t228 t229 t231 t232))) else (posternlaw14_TnumSets.j2 kj62 a2 t233 true a0_0 a0_1 a1_0 a1_1 t228 t229 t231 t232))) else (posternlaw14_TnumSets.j2 kj62 a2 t233 true a0_0 a0_1 a1_0 a1_1 t228 t229 t231 t232))) else (posternlaw14_TnumSets.j2 kj62 a2 t233 true a0_0 a0_1 a1_0 a1_1 t228 t229 t231 t232))) else (posternlaw14_TnumSets.j2 kj62 a2 t233 true a0_0 a0_1 a1_0 a1_1 t228 t229 t231 t232))))) = some r := H
       have A74 := Aside0.mk A740; clear A740
       have HC75 := Aside0.mk H
       clear H; have hnb76 := NB211_212.out; have hnc76 := NB212_211.out; have hcz77_0 : wc.cell? ⟨gb211, 0, none⟩ = some (.int .u64 a0_0) := (blk_cell BK211.out 0).trans rfl; have hcz77_1 : wc.cell? ⟨gb211, 1, none⟩ = some (.int .u64 a0_1) := (blk_cell BK211.out 1).trans rfl; have hfz77_0 := blk_frozen BK211.out 0; have hfz77_1 := blk_frozen BK211.out 1; have hcz78_0 : wc.cell? ⟨gb212, 0, none⟩ = some (.int .u64 a1_0) := (blk_cell BK212.out 0).trans rfl; have hcz78_1 : wc.cell? ⟨gb212, 1, none⟩ = some (.int .u64 a1_1) := (blk_cell BK212.out 1).trans rfl; have hfz78_0 := blk_frozen BK212.out 0; have hfz78_1 := blk_frozen BK212.out 1
       go_upto_region 9 with (first | ((with_reducible refine gate_callee (f := 26) rfl ?_); refine goesL_ (some 70) rfl rfl Try.func26 (by kernel_rfl) rfl #[.agg #[.int .u64 a0_0, .int .u64 a0_1], .agg #[.int .u64 a1_0, .int .u64 a1_1]] rfl (by (try simp only [List.map_toArray, List.map_cons, List.map_nil]); first | done | rfl | (simp only [List.length_drop, List.length_take]; rfl)) ?_; (with_reducible refine (tnum_Join.calls a0_0 a0_1 a1_0 a1_1 t228 t229 _ A73.out).mono ?_); rintro e w79 ⟨rfl, hb⟩; refine ⟨_, rfl, ?_⟩; have n0_ := Aside0.mk (blk_below (g := gb211) (o := .cells #[.int .u64 a0_0, .int .u64 a0_1] 24 (0, 0)) (by (with_reducible repeat (first | apply bN | apply bD | apply bA)); exact BK211.out) hb); have n1_ := Aside0.mk (blk_below (g := gb212) (o := .cells #[.int .u64 a1_0, .int .u64 a1_1] 24 (0, 0)) (by (with_reducible repeat (first | apply bN | apply bD | apply bA)); exact BK212.out) hb); have n2_ := Aside0.mk (below_step (by repeat (first | (with_reducible first | exact HB.out | apply lA | apply lN | apply lD | refine lS ?_ ‹_›) | exact HB.out)) hb); clear BK211; clear BK212; clear HB; have BK211 := n0_; have BK212 := n1_; have HB := n2_; clear n0_ n1_ n2_; (try clear hb); (try clear hb2); (try clear hk); (try clear hi)) | ((with_reducible refine gate_dst (N := 10) rfl ?_); refine box_event ?hg (N := 10) ?hd (cs := #[.int .u64 0, .int .u64 0]) (t := 24) ?hr ?_; (case hd => rfl); (case hg => rfl); (case hr => first | (go_simp; done) | (go_simp; rfl)); intro gb230 hg w80 hbox hb; have n0_ := Aside0.mk (blk_below (g := gb211) (o := .cells #[.int .u64 a0_0, .int .u64 a0_1] 24 (0, 0)) (by (with_reducible repeat (first | apply bN | apply bD | apply bA)); exact BK211.out) hb); have n1_ := Aside0.mk (blk_below (g := gb212) (o := .cells #[.int .u64 a1_0, .int .u64 a1_1] 24 (0, 0)) (by (with_reducible repeat (first | apply bN | apply bD | apply bA)); exact BK212.out) hb); have n2_ := Aside0.mk (below_step (by repeat (first | (with_reducible first | exact HB.out | apply lA | apply lN | apply lD | refine lS ?_ ‹_›) | exact HB.out)) hb); have n3_ := Aside0.mk (hbox); have n4_ := Aside0.mk ((by rw [hg]; exact (below_size (by repeat (first | (with_reducible first | exact HB.out | apply lA | apply lN | apply lD | refine lS ?_ ‹_›) | exact HB.out))) : w.heap.size ≤ gb230)); have n5_ := n4_; have n6_ := Aside0.mk ((by rw [hg]; exact Nat.ne_of_lt (blk_lt (g := gb211) (o := .cells #[.int .u64 a0_0, .int .u64 a0_1] 24 (0, 0)) (by (with_reducible repeat (first | apply bN | apply bD | apply bA)); exact BK211.out)) : gb211 ≠ gb230)); have n7_ := sy n6_; have n8_ := Aside0.mk ((by rw [hg]; exact Nat.ne_of_lt (blk_lt (g := gb212) (o := .cells #[.int .u64 a1_0, .int .u64 a1_1] 24 (0, 0)) (by (with_reducible repeat (first | apply bN | apply bD | apply bA)); exact BK212.out)) : gb212 ≠ gb230)); have n9_ := sy n8_; clear BK211; clear BK212; clear HB; have BK211 := n0_; have BK212 := n1_; have HB := n2_; have BK230 := n3_; have GW230 := n4_; have GE230 := n5_; have NB211_230 := n6_; have NB230_211 := n7_; have NB212_230 := n8_; have NB230_212 := n9_; clear n0_ n1_ n2_ n3_ n4_ n5_ n6_ n7_ n8_ n9_; clear hb hbox hg; have hnb81 := NB230_211.out; have hnc81 := NB211_230.out; have hnb82 := NB230_212.out; have hnc82 := NB212_230.out; have hcz83_0 : w80.cell? ⟨gb230, 0, none⟩ = some (.int .u64 0) := (blk_cell BK230.out 0).trans rfl; have hcz83_1 : w80.cell? ⟨gb230, 1, none⟩ = some (.int .u64 0) := (blk_cell BK230.out 1).trans rfl; have hfz83_0 := blk_frozen BK230.out 0; have hfz83_1 := blk_frozen BK230.out 1; have hcz84_0 : w80.cell? ⟨gb211, 0, none⟩ = some (.int .u64 a0_0) := (blk_cell BK211.out 0).trans rfl; have hcz84_1 : w80.cell? ⟨gb211, 1, none⟩ = some (.int .u64 a0_1) := (blk_cell BK211.out 1).trans rfl; have hfz84_0 := blk_frozen BK211.out 0; have hfz84_1 := blk_frozen BK211.out 1; have hcz85_0 : w80.cell? ⟨gb212, 0, none⟩ = some (.int .u64 a1_0) := (blk_cell BK212.out 0).trans rfl; have hcz85_1 : w80.cell? ⟨gb212, 1, none⟩ = some (.int .u64 a1_1) := (blk_cell BK212.out 1).trans rfl; have hfz85_0 := blk_frozen BK212.out 0; have hfz85_1 := blk_frozen BK212.out 1) | ((with_reducible refine gate_callee (f := 27) rfl ?_); refine goesL_ (some 74) rfl rfl Try.func27 (by kernel_rfl) rfl #[.agg #[.int .u64 a0_0, .int .u64 a0_1], .agg #[.int .u64 a1_0, .int .u64 a1_1]] rfl (by (try simp only [List.map_toArray, List.map_cons, List.map_nil]); first | done | rfl | (simp only [List.length_drop, List.length_take]; rfl)) ?_; (with_reducible refine (tnum_Meet.calls a0_0 a0_1 a1_0 a1_1 t231 t232 t233 _ A74.out).mono ?_); rintro e w86 ⟨rfl, hb⟩; refine ⟨_, rfl, ?_⟩; have n0_ := Aside0.mk (blk_below (g := gb211) (o := .cells #[.int .u64 a0_0, .int .u64 a0_1] 24 (0, 0)) (by (with_reducible repeat (first | apply bN | apply bD | apply bA)); refine blk_far ?_ NB211_230.out _; (with_reducible repeat (first | apply bN | apply bD | apply bA)); refine blk_far ?_ NB211_230.out _; (with_reducible repeat (first | apply bN | apply bD | apply bA)); exact BK211.out) hb); have n1_ := Aside0.mk (blk_below (g := gb212) (o := .cells #[.int .u64 a1_0, .int .u64 a1_1] 24 (0, 0)) (by (with_reducible repeat (first | apply bN | apply bD | apply bA)); refine blk_far ?_ NB212_230.out _; (with_reducible repeat (first | apply bN | apply bD | apply bA)); refine blk_far ?_ NB212_230.out _; (with_reducible repeat (first | apply bN | apply bD | apply bA)); exact BK212.out) hb); have n2_ := Aside0.mk (blk_below (g := gb230) (o := .cells #[.int .u64 t228, .int .u64 t229] 24 (0, 0)) (by (with_reducible repeat (first | apply bN | apply bD | apply bA)); refine blk_put (cs := #[.int .u64 t228, .int .u64 0]) ?_ 1 _ rfl; (with_reducible repeat (first | apply bN | apply bD | apply bA)); refine blk_put (cs := #[.int .u64 0, .int .u64 0]) ?_ 0 _ rfl; (with_reducible repeat (first | apply bN | apply bD | apply bA)); exact BK230.out) hb); have n3_ := Aside0.mk (below_step (by repeat (first | (with_reducible first | exact HB.out | apply lA | apply lN | apply lD | refine lS ?_ ‹_›) | exact HB.out)) hb); clear BK211; clear BK212; clear BK230; clear HB; have BK211 := n0_; have BK212 := n1_; have BK230 := n2_; have HB := n3_; clear n0_ n1_ n2_ n3_; (try clear hb); (try clear hb2); (try clear hk); (try clear hi)) | ((with_reducible refine gate_dst (N := 11) rfl ?_); refine box_event ?hg (N := 11) ?hd (cs := #[.int .u64 0, .int .u64 0]) (t := 24) ?hr ?_; (case hd => rfl); (case hg => rfl); (case hr => first | (go_simp; done) | (go_simp; rfl)); intro gb234 hg w87 hbox hb; have n0_ := Aside0.mk (blk_below (g := gb211) (o := .cells #[.int .u64 a0_0, .int .u64 a0_1] 24 (0, 0)) (by (with_reducible repeat (first | apply bN | apply bD | apply bA)); exact BK211.out) hb); have n1_ := Aside0.mk (blk_below (g := gb212) (o := .cells #[.int .u64 a1_0, .int .u64 a1_1] 24 (0, 0)) (by (with_reducible repeat (first | apply bN | apply bD | apply bA)); exact BK212.out) hb); have n2_ := Aside0.mk (blk_below (g := gb230) (o := .cells #[.int .u64 t228, .int .u64 t229] 24 (0, 0)) (by (with_reducible repeat (first | apply bN | apply bD | apply bA)); exact BK230.out) hb); have n3_ := Aside0.mk (below_step (by repeat (first | (with_reducible first | exact HB.out | apply lA | apply lN | apply lD | refine lS ?_ ‹_›) | exact HB.out)) hb); have n4_ := Aside0.mk (hbox); have n5_ := Aside0.mk ((by rw [hg]; exact (below_size (by repeat (first | (with_reducible first | exact HB.out | apply lA | apply lN | apply lD | refine lS ?_ ‹_›) | exact HB.out))) : w.heap.size ≤ gb234)); have n6_ := n5_; have n7_ := Aside0.mk ((by rw [hg]; exact Nat.ne_of_lt (blk_lt (g := gb211) (o := .cells #[.int .u64 a0_0, .int .u64 a0_1] 24 (0, 0)) (by (with_reducible repeat (first | apply bN | apply bD | apply bA)); exact BK211.out)) : gb211 ≠ gb234)); have n8_ := sy n7_; have n9_ := Aside0.mk ((by rw [hg]; exact Nat.ne_of_lt (blk_lt (g := gb212) (o := .cells #[.int .u64 a1_0, .int .u64 a1_1] 24 (0, 0)) (by (with_reducible repeat (first | apply bN | apply bD | apply bA)); exact BK212.out)) : gb212 ≠ gb234)); have n10_ := sy n9_; have n11_ := Aside0.mk ((by rw [hg]; exact Nat.ne_of_lt (blk_lt (g := gb230) (o := .cells #[.int .u64 t228, .int .u64 t229] 24 (0, 0)) (by (with_reducible repeat (first | apply bN | apply bD | apply bA)); exact BK230.out)) : gb230 ≠ gb234)); have n12_ := sy n11_; clear BK211; clear BK212; clear BK230; clear HB; have BK211 := n0_; have BK212 := n1_; have BK230 := n2_; have HB := n3_; have BK234 := n4_; have GW234 := n5_; have GE234 := n6_; have NB211_234 := n7_; have NB234_211 := n8_; have NB212_234 := n9_; have NB234_212 := n10_; have NB230_234 := n11_; have NB234_230 := n12_; clear n0_ n1_ n2_ n3_ n4_ n5_ n6_ n7_ n8_ n9_ n10_ n11_ n12_; clear hb hbox hg; have hnb88 := NB234_211.out; have hnc88 := NB211_234.out; have hnb89 := NB234_212.out; have hnc89 := NB212_234.out; have hnb90 := NB234_230.out; have hnc90 := NB230_234.out; have hcz91_0 : w87.cell? ⟨gb234, 0, none⟩ = some (.int .u64 0) := (blk_cell BK234.out 0).trans rfl; have hcz91_1 : w87.cell? ⟨gb234, 1, none⟩ = some (.int .u64 0) := (blk_cell BK234.out 1).trans rfl; have hfz91_0 := blk_frozen BK234.out 0; have hfz91_1 := blk_frozen BK234.out 1))
       (try simp only [Act.put, List.setIfInBounds_toArray, List.set_cons_zero, List.set_cons_succ])
       go_cut [115] (fun v115 wc => ∃ (kq : Nat) (x115_74 : Bool), v115 = .bool x115_74 ∧ Aside0 (posternlaw14_TnumSets.j2 kq a2 t233 x115_74 a0_0 a0_1 a1_0 a1_1 t228 t229 t231 t232 = some r) ∧ Aside0 (kq ≤ kj62) ∧ Aside0 (wc.heap[gb211]? = some (.cells #[.int .u64 a0_0, .int .u64 a0_1] 24 (0, 0))) ∧ Aside0 (wc.heap[gb212]? = some (.cells #[.int .u64 a1_0, .int .u64 a1_1] 24 (0, 0))) ∧ Aside0 (wc.heap[gb230]? = some (.cells #[.int .u64 t228, .int .u64 t229] 24 (0, 0))) ∧ Aside0 (wc.heap[gb234]? = some (.cells #[.int .u64 t231, .int .u64 t232] 24 (0, 0))) ∧ Aside0 (Below w.heap.size w wc))
       case first => as_aux_lemma =>
        have H := HC75.out
        clear HC75; replace H := Option.bind_eq_some_iff.mp H; obtain ⟨t235, A920, H⟩ := H
        replace H : (if (t235 != x9_62) = true then (posternlaw14_TnumSets.j2 kj62 a2 t233 true a0_0 a0_1 a1_0 a1_1 t228 t229 t231 t232) else ((tnum_In.f a0_0 a0_1 t228 t229).bind fun t236 => (if t236 = true then ((tnum_In.f a1_0 a1_1 t228 t229).bind fun t237 => (if t237 = true then ((posternlaw14_good.f t228 t229).bind fun t238 => (if t238 = true then ((posternlaw14_good.f t231 t232).bind fun t239 => (if t239 = true then ((tnum_Has.f t228 t229 t214).bind fun t240 => (if t240 = true then ((tnum_Has.f t228 t229 t215).bind fun t241 => (posternlaw14_TnumSets.j2 kj62 a2 t233 (!t241) a0_0 a0_1 a1_0 a1_1 t228 t229 t231 t232)) else (posternlaw14_TnumSets.j2 kj62 a2 t233 true a0_0 a0_1 a1_0 a1_1 t228 t229 t231 t232))) else (posternlaw14_TnumSets.j2 kj62 a2 t233 true a0_0 a0_1 a1_0 a1_1 t228 t229 t231 t232))) else (posternlaw14_TnumSets.j2 kj62 a2 t233 true a0_0 a0_1 a1_0 a1_1 t228 t229 t231 t232))) else (posternlaw14_TnumSets.j2 kj62 a2 t233 true a0_0 a0_1 a1_0 a1_1 t228 t229 t231 t232))) else (posternlaw14_TnumSets.j2 kj62 a2 t233 true a0_0 a0_1 a1_0 a1_1 t228 t229 t231 t232)))) = some r := H
        have A92 := Aside0.mk A920; clear A920
        by_cases c93 : (t235 != x9_62) = true
        ·
         rw [if_pos c93] at H
         have c93b0 : (t235 != x9_62) = true := c93
         (try (have c93b1 : decide (t235 = x9_62) = false := by simpa using c93)); (try (have c93b2 : (t235 == x9_62) = false := by simpa using c93)); (try (have c93b3 : ¬ (t235 = x9_62) := by simpa using c93)); clear c93
         (first | rw [c93b0] | (simp only [i64_w, i32_w]; rw [c93b0]) | skip)
         have H' := Aside0.mk H
         clear H; have hnb94 := NB211_212.out; have hnc94 := NB212_211.out; have hnb95 := NB211_230.out; have hnc95 := NB230_211.out; have hnb96 := NB211_234.out; have hnc96 := NB234_211.out; have hcz97_0 : w87.cell? ⟨gb211, 0, none⟩ = some (.int .u64 a0_0) := (blk_cell BK211.out 0).trans rfl; have hcz97_1 : w87.cell? ⟨gb211, 1, none⟩ = some (.int .u64 a0_1) := (blk_cell BK211.out 1).trans rfl; have hfz97_0 := blk_frozen BK211.out 0; have hfz97_1 := blk_frozen BK211.out 1; have hnb98 := NB212_230.out; have hnc98 := NB230_212.out; have hnb99 := NB212_234.out; have hnc99 := NB234_212.out; have hcz100_0 : w87.cell? ⟨gb212, 0, none⟩ = some (.int .u64 a1_0) := (blk_cell BK212.out 0).trans rfl; have hcz100_1 : w87.cell? ⟨gb212, 1, none⟩ = some (.int .u64 a1_1) := (blk_cell BK212.out 1).trans rfl; have hfz100_0 := blk_frozen BK212.out 0; have hfz100_1 := blk_frozen BK212.out 1
         go_wp2_with (first | ((with_reducible refine gate_callee (f := 28) rfl ?_); refine goesL_ (some 79) rfl rfl Try.func28 (by kernel_rfl) rfl #[.agg #[.int .u64 a0_0, .int .u64 a0_1], .agg #[.int .u64 a1_0, .int .u64 a1_1]] rfl (by (try simp only [List.map_toArray, List.map_cons, List.map_nil]); first | done | rfl | (simp only [List.length_drop, List.length_take]; rfl)) ?_; (with_reducible refine (tnum_In.calls a0_0 a0_1 a1_0 a1_1 t235 _ A92.out).mono ?_); rintro e w101 ⟨rfl, hb⟩; refine ⟨_, rfl, ?_⟩; have n0_ := Aside0.mk (blk_below (g := gb211) (o := .cells #[.int .u64 a0_0, .int .u64 a0_1] 24 (0, 0)) (by (with_reducible repeat (first | apply bN | apply bD | apply bA)); refine blk_far ?_ NB211_234.out _; (with_reducible repeat (first | apply bN | apply bD | apply bA)); refine blk_far ?_ NB211_234.out _; (with_reducible repeat (first | apply bN | apply bD | apply bA)); exact BK211.out) hb); have n1_ := Aside0.mk (blk_below (g := gb212) (o := .cells #[.int .u64 a1_0, .int .u64 a1_1] 24 (0, 0)) (by (with_reducible repeat (first | apply bN | apply bD | apply bA)); refine blk_far ?_ NB212_234.out _; (with_reducible repeat (first | apply bN | apply bD | apply bA)); refine blk_far ?_ NB212_234.out _; (with_reducible repeat (first | apply bN | apply bD | apply bA)); exact BK212.out) hb); have n2_ := Aside0.mk (blk_below (g := gb230) (o := .cells #[.int .u64 t228, .int .u64 t229] 24 (0, 0)) (by (with_reducible repeat (first | apply bN | apply bD | apply bA)); refine blk_far ?_ NB230_234.out _; (with_reducible repeat (first | apply bN | apply bD | apply bA)); refine blk_far ?_ NB230_234.out _; (with_reducible repeat (first | apply bN | apply bD | apply bA)); exact BK230.out) hb); have n3_ := Aside0.mk (blk_below (g := gb234) (o := .cells #[.int .u64 t231, .int .u64 t232] 24 (0, 0)) (by (with_reducible repeat (first | apply bN | apply bD | apply bA)); refine blk_put (cs := #[.int .u64 t231, .int .u64 0]) ?_ 1 _ rfl; (with_reducible repeat (first | apply bN | apply bD | apply bA)); refine blk_put (cs := #[.int .u64 0, .int .u64 0]) ?_ 0 _ rfl; (with_reducible repeat (first | apply bN | apply bD | apply bA)); exact BK234.out) hb); have n4_ := Aside0.mk (below_step (by repeat (first | (with_reducible first | exact HB.out | apply lA | apply lN | apply lD | refine lS ?_ ‹_›) | exact HB.out)) hb); clear BK211; clear BK212; clear BK230; clear BK234; clear HB; have BK211 := n0_; have BK212 := n1_; have BK230 := n2_; have BK234 := n3_; have HB := n4_; clear n0_ n1_ n2_ n3_ n4_; (try clear hb); (try clear hb2); (try clear hk); (try clear hi)))
         go_meet
         case rel => exact ⟨_, (true), (by first | rfl | (simp; done) | (simp [*]; done)), H', ⟨by have := HJ7.out; have := HJ62.out; first | omega | exact Nat.le_refl _⟩, ⟨by (with_reducible repeat (first | apply bN | apply bD | apply bA)); exact BK211.out⟩, ⟨by (with_reducible repeat (first | apply bN | apply bD | apply bA)); exact BK212.out⟩, ⟨by (with_reducible repeat (first | apply bN | apply bD | apply bA)); exact BK230.out⟩, ⟨by (with_reducible repeat (first | apply bN | apply bD | apply bA)); exact BK234.out⟩, ⟨by repeat (first | (with_reducible first | exact HB.out | apply lA | apply lN | apply lD | refine lS ?_ ‹_›) | exact HB.out)⟩⟩
        ·
         rw [if_neg c93] at H
         have c93b0 : (t235 != x9_62) = false := by simpa using c93
         (try (have c93b1 : decide (t235 = x9_62) = true := by simpa using c93)); (try (have c93b2 : (t235 == x9_62) = true := by simpa using c93)); clear c93
         (first | rw [c93b0] | (simp only [i64_w, i32_w]; rw [c93b0]) | skip)
         replace H := Option.bind_eq_some_iff.mp H; obtain ⟨t236, A1020, H⟩ := H
         replace H : (if t236 = true then ((tnum_In.f a1_0 a1_1 t228 t229).bind fun t237 => (if t237 = true then ((posternlaw14_good.f t228 t229).bind fun t238 => (if t238 = true then ((posternlaw14_good.f t231 t232).bind fun t239 => (if t239 = true then ((tnum_Has.f t228 t229 t214).bind fun t240 => (if t240 = true then ((tnum_Has.f t228 t229 t215).bind fun t241 => (posternlaw14_TnumSets.j2 kj62 a2 t233 (!t241) a0_0 a0_1 a1_0 a1_1 t228 t229 t231 t232)) else (posternlaw14_TnumSets.j2 kj62 a2 t233 true a0_0 a0_1 a1_0 a1_1 t228 t229 t231 t232))) else (posternlaw14_TnumSets.j2 kj62 a2 t233 true a0_0 a0_1 a1_0 a1_1 t228 t229 t231 t232))) else (posternlaw14_TnumSets.j2 kj62 a2 t233 true a0_0 a0_1 a1_0 a1_1 t228 t229 t231 t232))) else (posternlaw14_TnumSets.j2 kj62 a2 t233 true a0_0 a0_1 a1_0 a1_1 t228 t229 t231 t232))) else (posternlaw14_TnumSets.j2 kj62 a2 t233 true a0_0 a0_1 a1_0 a1_1 t228 t229 t231 t232)) = some r := H
         have A102 := Aside0.mk A1020; clear A1020
         by_cases c103 : t236 = true
         ·
          subst c103
          have H1 : ((tnum_In.f a1_0 a1_1 t228 t229).bind fun t237 => (if t237 = true then ((posternlaw14_good.f t228 t229).bind fun t238 => (if t238 = true then ((posternlaw14_good.f t231 t232).bind fun t239 => (if t239 = true then ((tnum_Has.f t228 t229 t214).bind fun t240 => (if t240 = true then ((tnum_Has.f t228 t229 t215).bind fun t241 => (posternlaw14_TnumSets.j2 kj62 a2 t233 (!t241) a0_0 a0_1 a1_0 a1_1 t228 t229 t231 t232)) else (posternlaw14_TnumSets.j2 kj62 a2 t233 true a0_0 a0_1 a1_0 a1_1 t228 t229 t231 t232))) else (posternlaw14_TnumSets.j2 kj62 a2 t233 true a0_0 a0_1 a1_0 a1_1 t228 t229 t231 t232))) else (posternlaw14_TnumSets.j2 kj62 a2 t233 true a0_0 a0_1 a1_0 a1_1 t228 t229 t231 t232))) else (posternlaw14_TnumSets.j2 kj62 a2 t233 true a0_0 a0_1 a1_0 a1_1 t228 t229 t231 t232))) = some r := by rw [if_pos rfl] at H; exact H
          clear H; have H := H1; clear H1; replace H := Option.bind_eq_some_iff.mp H; obtain ⟨t237, A1040, H⟩ := H
          replace H : (if t237 = true then ((posternlaw14_good.f t228 t229).bind fun t238 => (if t238 = true then ((posternlaw14_good.f t231 t232).bind fun t239 => (if t239 = true then ((tnum_Has.f t228 t229 t214).bind fun t240 => (if t240 = true then ((tnum_Has.f t228 t229 t215).bind fun t241 => (posternlaw14_TnumSets.j2 kj62 a2 t233 (!t241) a0_0 a0_1 a1_0 a1_1 t228 t229 t231 t232)) else (posternlaw14_TnumSets.j2 kj62 a2 t233 true a0_0 a0_1 a1_0 a1_1 t228 t229 t231 t232))) else (posternlaw14_TnumSets.j2 kj62 a2 t233 true a0_0 a0_1 a1_0 a1_1 t228 t229 t231 t232))) else (posternlaw14_TnumSets.j2 kj62 a2 t233 true a0_0 a0_1 a1_0 a1_1 t228 t229 t231 t232))) else (posternlaw14_TnumSets.j2 kj62 a2 t233 true a0_0 a0_1 a1_0 a1_1 t228 t229 t231 t232)) = some r := H
          have A104 := Aside0.mk A1040; clear A1040
          by_cases c105 : t237 = true
          ·
           subst c105
           have H1 : ((posternlaw14_good.f t228 t229).bind fun t238 => (if t238 = true then ((posternlaw14_good.f t231 t232).bind fun t239 => (if t239 = true then ((tnum_Has.f t228 t229 t214).bind fun t240 => (if t240 = true then ((tnum_Has.f t228 t229 t215).bind fun t241 => (posternlaw14_TnumSets.j2 kj62 a2 t233 (!t241) a0_0 a0_1 a1_0 a1_1 t228 t229 t231 t232)) else (posternlaw14_TnumSets.j2 kj62 a2 t233 true a0_0 a0_1 a1_0 a1_1 t228 t229 t231 t232))) else (posternlaw14_TnumSets.j2 kj62 a2 t233 true a0_0 a0_1 a1_0 a1_1 t228 t229 t231 t232))) else (posternlaw14_TnumSets.j2 kj62 a2 t233 true a0_0 a0_1 a1_0 a1_1 t228 t229 t231 t232))) = some r := by rw [if_pos rfl] at H; exact H
           clear H; have H := H1; clear H1; replace H := Option.bind_eq_some_iff.mp H; obtain ⟨t238, A1060, H⟩ := H
           replace H : (if t238 = true then ((posternlaw14_good.f t231 t232).bind fun t239 => (if t239 = true then ((tnum_Has.f t228 t229 t214).bind fun t240 => (if t240 = true then ((tnum_Has.f t228 t229 t215).bind fun t241 => (posternlaw14_TnumSets.j2 kj62 a2 t233 (!t241) a0_0 a0_1 a1_0 a1_1 t228 t229 t231 t232)) else (posternlaw14_TnumSets.j2 kj62 a2 t233 true a0_0 a0_1 a1_0 a1_1 t228 t229 t231 t232))) else (posternlaw14_TnumSets.j2 kj62 a2 t233 true a0_0 a0_1 a1_0 a1_1 t228 t229 t231 t232))) else (posternlaw14_TnumSets.j2 kj62 a2 t233 true a0_0 a0_1 a1_0 a1_1 t228 t229 t231 t232)) = some r := H
           have A106 := Aside0.mk A1060; clear A1060
           by_cases c107 : t238 = true
           ·
            subst c107
            have H1 : ((posternlaw14_good.f t231 t232).bind fun t239 => (if t239 = true then ((tnum_Has.f t228 t229 t214).bind fun t240 => (if t240 = true then ((tnum_Has.f t228 t229 t215).bind fun t241 => (posternlaw14_TnumSets.j2 kj62 a2 t233 (!t241) a0_0 a0_1 a1_0 a1_1 t228 t229 t231 t232)) else (posternlaw14_TnumSets.j2 kj62 a2 t233 true a0_0 a0_1 a1_0 a1_1 t228 t229 t231 t232))) else (posternlaw14_TnumSets.j2 kj62 a2 t233 true a0_0 a0_1 a1_0 a1_1 t228 t229 t231 t232))) = some r := by rw [if_pos rfl] at H; exact H
            clear H; have H := H1; clear H1; replace H := Option.bind_eq_some_iff.mp H; obtain ⟨t239, A1080, H⟩ := H
            replace H : (if t239 = true then ((tnum_Has.f t228 t229 t214).bind fun t240 => (if t240 = true then ((tnum_Has.f t228 t229 t215).bind fun t241 => (posternlaw14_TnumSets.j2 kj62 a2 t233 (!t241) a0_0 a0_1 a1_0 a1_1 t228 t229 t231 t232)) else (posternlaw14_TnumSets.j2 kj62 a2 t233 true a0_0 a0_1 a1_0 a1_1 t228 t229 t231 t232))) else (posternlaw14_TnumSets.j2 kj62 a2 t233 true a0_0 a0_1 a1_0 a1_1 t228 t229 t231 t232)) = some r := H
            have A108 := Aside0.mk A1080; clear A1080
            by_cases c109 : t239 = true
            ·
             subst c109
             have H1 : ((tnum_Has.f t228 t229 t214).bind fun t240 => (if t240 = true then ((tnum_Has.f t228 t229 t215).bind fun t241 => (posternlaw14_TnumSets.j2 kj62 a2 t233 (!t241) a0_0 a0_1 a1_0 a1_1 t228 t229 t231 t232)) else (posternlaw14_TnumSets.j2 kj62 a2 t233 true a0_0 a0_1 a1_0 a1_1 t228 t229 t231 t232))) = some r := by rw [if_pos rfl] at H; exact H
             clear H; have H := H1; clear H1; replace H := Option.bind_eq_some_iff.mp H; obtain ⟨t240, A1100, H⟩ := H
             replace H : (if t240 = true then ((tnum_Has.f t228 t229 t215).bind fun t241 => (posternlaw14_TnumSets.j2 kj62 a2 t233 (!t241) a0_0 a0_1 a1_0 a1_1 t228 t229 t231 t232)) else (posternlaw14_TnumSets.j2 kj62 a2 t233 true a0_0 a0_1 a1_0 a1_1 t228 t229 t231 t232)) = some r := H
             have A110 := Aside0.mk A1100; clear A1100
             by_cases c111 : t240 = true
             ·
              subst c111
              have H1 : ((tnum_Has.f t228 t229 t215).bind fun t241 => (posternlaw14_TnumSets.j2 kj62 a2 t233 (!t241) a0_0 a0_1 a1_0 a1_1 t228 t229 t231 t232)) = some r := by rw [if_pos rfl] at H; exact H
              clear H; have H := H1; clear H1; replace H := Option.bind_eq_some_iff.mp H; obtain ⟨t241, A1120, H⟩ := H
              replace H : (posternlaw14_TnumSets.j2 kj62 a2 t233 (!t241) a0_0 a0_1 a1_0 a1_1 t228 t229 t231 t232) = some r := H
              have A112 := Aside0.mk A1120; clear A1120; have H' := Aside0.mk H
              clear H; have hnb113 := NB211_212.out; have hnc113 := NB212_211.out; have hnb114 := NB211_230.out; have hnc114 := NB230_211.out; have hnb115 := NB211_234.out; have hnc115 := NB234_211.out; have hcz116_0 : w87.cell? ⟨gb211, 0, none⟩ = some (.int .u64 a0_0) := (blk_cell BK211.out 0).trans rfl; have hcz116_1 : w87.cell? ⟨gb211, 1, none⟩ = some (.int .u64 a0_1) := (blk_cell BK211.out 1).trans rfl; have hfz116_0 := blk_frozen BK211.out 0; have hfz116_1 := blk_frozen BK211.out 1; have hnb117 := NB212_230.out; have hnc117 := NB230_212.out; have hnb118 := NB212_234.out; have hnc118 := NB234_212.out; have hcz119_0 : w87.cell? ⟨gb212, 0, none⟩ = some (.int .u64 a1_0) := (blk_cell BK212.out 0).trans rfl; have hcz119_1 : w87.cell? ⟨gb212, 1, none⟩ = some (.int .u64 a1_1) := (blk_cell BK212.out 1).trans rfl; have hfz119_0 := blk_frozen BK212.out 0; have hfz119_1 := blk_frozen BK212.out 1
              go_wp2_with (first | ((with_reducible refine gate_callee (f := 28) rfl ?_); refine goesL_ (some 79) rfl rfl Try.func28 (by kernel_rfl) rfl #[.agg #[.int .u64 a0_0, .int .u64 a0_1], .agg #[.int .u64 a1_0, .int .u64 a1_1]] rfl (by (try simp only [List.map_toArray, List.map_cons, List.map_nil]); first | done | rfl | (simp only [List.length_drop, List.length_take]; rfl)) ?_; (with_reducible refine (tnum_In.calls a0_0 a0_1 a1_0 a1_1 t235 _ A92.out).mono ?_); rintro e w120 ⟨rfl, hb⟩; refine ⟨_, rfl, ?_⟩; have n0_ := Aside0.mk (blk_below (g := gb211) (o := .cells #[.int .u64 a0_0, .int .u64 a0_1] 24 (0, 0)) (by (with_reducible repeat (first | apply bN | apply bD | apply bA)); refine blk_far ?_ NB211_234.out _; (with_reducible repeat (first | apply bN | apply bD | apply bA)); refine blk_far ?_ NB211_234.out _; (with_reducible repeat (first | apply bN | apply bD | apply bA)); exact BK211.out) hb); have n1_ := Aside0.mk (blk_below (g := gb212) (o := .cells #[.int .u64 a1_0, .int .u64 a1_1] 24 (0, 0)) (by (with_reducible repeat (first | apply bN | apply bD | apply bA)); refine blk_far ?_ NB212_234.out _; (with_reducible repeat (first | apply bN | apply bD | apply bA)); refine blk_far ?_ NB212_234.out _; (with_reducible repeat (first | apply bN | apply bD | apply bA)); exact BK212.out) hb); have n2_ := Aside0.mk (blk_below (g := gb230) (o := .cells #[.int .u64 t228, .int .u64 t229] 24 (0, 0)) (by (with_reducible repeat (first | apply bN | apply bD | apply bA)); refine blk_far ?_ NB230_234.out _; (with_reducible repeat (first | apply bN | apply bD | apply bA)); refine blk_far ?_ NB230_234.out _; (with_reducible repeat (first | apply bN | apply bD | apply bA)); exact BK230.out) hb); have n3_ := Aside0.mk (blk_below (g := gb234) (o := .cells #[.int .u64 t231, .int .u64 t232] 24 (0, 0)) (by (with_reducible repeat (first | apply bN | apply bD | apply bA)); refine blk_put (cs := #[.int .u64 t231, .int .u64 0]) ?_ 1 _ rfl; (with_reducible repeat (first | apply bN | apply bD | apply bA)); refine blk_put (cs := #[.int .u64 0, .int .u64 0]) ?_ 0 _ rfl; (with_reducible repeat (first | apply bN | apply bD | apply bA)); exact BK234.out) hb); have n4_ := Aside0.mk (below_step (by repeat (first | (with_reducible first | exact HB.out | apply lA | apply lN | apply lD | refine lS ?_ ‹_›) | exact HB.out)) hb); clear BK211; clear BK212; clear BK230; clear BK234; clear HB; have BK211 := n0_; have BK212 := n1_; have BK230 := n2_; have BK234 := n3_; have HB := n4_; clear n0_ n1_ n2_ n3_ n4_; (try clear hb); (try clear hb2); (try clear hk); (try clear hi); have hcz121_0 : w120.cell? ⟨gb211, 0, none⟩ = some (.int .u64 a0_0) := (blk_cell BK211.out 0).trans rfl; have hcz121_1 : w120.cell? ⟨gb211, 1, none⟩ = some (.int .u64 a0_1) := (blk_cell BK211.out 1).trans rfl; have hfz121_0 := blk_frozen BK211.out 0; have hfz121_1 := blk_frozen BK211.out 1; have hnb122 := NB230_234.out; have hnc122 := NB234_230.out; have hcz123_0 : w120.cell? ⟨gb230, 0, none⟩ = some (.int .u64 t228) := (blk_cell BK230.out 0).trans rfl; have hcz123_1 : w120.cell? ⟨gb230, 1, none⟩ = some (.int .u64 t229) := (blk_cell BK230.out 1).trans rfl; have hfz123_0 := blk_frozen BK230.out 0; have hfz123_1 := blk_frozen BK230.out 1) | (go_at_call 28; (with_reducible refine (tnum_In.calls a0_0 a0_1 t228 t229 true _ A102.out).mono ?_); rintro e w124 ⟨rfl, hb⟩; have n0_ := Aside0.mk (blk_below (g := gb211) (o := .cells #[.int .u64 a0_0, .int .u64 a0_1] 24 (0, 0)) (by (with_reducible repeat (first | apply bN | apply bD | apply bA)); exact BK211.out) hb); have n1_ := Aside0.mk (blk_below (g := gb212) (o := .cells #[.int .u64 a1_0, .int .u64 a1_1] 24 (0, 0)) (by (with_reducible repeat (first | apply bN | apply bD | apply bA)); exact BK212.out) hb); have n2_ := Aside0.mk (blk_below (g := gb230) (o := .cells #[.int .u64 t228, .int .u64 t229] 24 (0, 0)) (by (with_reducible repeat (first | apply bN | apply bD | apply bA)); exact BK230.out) hb); have n3_ := Aside0.mk (blk_below (g := gb234) (o := .cells #[.int .u64 t231, .int .u64 t232] 24 (0, 0)) (by (with_reducible repeat (first | apply bN | apply bD | apply bA)); exact BK234.out) hb); have n4_ := Aside0.mk (below_step (by repeat (first | (with_reducible first | exact HB.out | apply lA | apply lN | apply lD | refine lS ?_ ‹_›) | exact HB.out)) hb); clear BK211; clear BK212; clear BK230; clear BK234; clear HB; have BK211 := n0_; have BK212 := n1_; have BK230 := n2_; have BK234 := n3_; have HB := n4_; clear n0_ n1_ n2_ n3_ n4_; (try clear hb); (try clear hb2); (try clear hk); (try clear hi); have hcz125_0 : w124.cell? ⟨gb212, 0, none⟩ = some (.int .u64 a1_0) := (blk_cell BK212.out 0).trans rfl; have hcz125_1 : w124.cell? ⟨gb212, 1, none⟩ = some (.int .u64 a1_1) := (blk_cell BK212.out 1).trans rfl; have hfz125_0 := blk_frozen BK212.out 0; have hfz125_1 := blk_frozen BK212.out 1; have hcz126_0 : w124.cell? ⟨gb230, 0, none⟩ = some (.int .u64 t228) := (blk_cell BK230.out 0).trans rfl; have hcz126_1 : w124.cell? ⟨gb230, 1, none⟩ = some (.int .u64 t229) := (blk_cell BK230.out 1).trans rfl; have hfz126_0 := blk_frozen BK230.out 0; have hfz126_1 := blk_frozen BK230.out 1) | (go_at_call 28; (with_reducible refine (tnum_In.calls a1_0 a1_1 t228 t229 true _ A104.out).mono ?_); rintro e w127 ⟨rfl, hb⟩; have n0_ := Aside0.mk (blk_below (g := gb211) (o := .cells #[.int .u64 a0_0, .int .u64 a0_1] 24 (0, 0)) (by (with_reducible repeat (first | apply bN | apply bD | apply bA)); exact BK211.out) hb); have n1_ := Aside0.mk (blk_below (g := gb212) (o := .cells #[.int .u64 a1_0, .int .u64 a1_1] 24 (0, 0)) (by (with_reducible repeat (first | apply bN | apply bD | apply bA)); exact BK212.out) hb); have n2_ := Aside0.mk (blk_below (g := gb230) (o := .cells #[.int .u64 t228, .int .u64 t229] 24 (0, 0)) (by (with_reducible repeat (first | apply bN | apply bD | apply bA)); exact BK230.out) hb); have n3_ := Aside0.mk (blk_below (g := gb234) (o := .cells #[.int .u64 t231, .int .u64 t232] 24 (0, 0)) (by (with_reducible repeat (first | apply bN | apply bD | apply bA)); exact BK234.out) hb); have n4_ := Aside0.mk (below_step (by repeat (first | (with_reducible first | exact HB.out | apply lA | apply lN | apply lD | refine lS ?_ ‹_›) | exact HB.out)) hb); clear BK211; clear BK212; clear BK230; clear BK234; clear HB; have BK211 := n0_; have BK212 := n1_; have BK230 := n2_; have BK234 := n3_; have HB := n4_; clear n0_ n1_ n2_ n3_ n4_; (try clear hb); (try clear hb2); (try clear hk); (try clear hi); have hcz128_0 : w127.cell? ⟨gb230, 0, none⟩ = some (.int .u64 t228) := (blk_cell BK230.out 0).trans rfl; have hcz128_1 : w127.cell? ⟨gb230, 1, none⟩ = some (.int .u64 t229) := (blk_cell BK230.out 1).trans rfl; have hfz128_0 := blk_frozen BK230.out 0; have hfz128_1 := blk_frozen BK230.out 1) | (go_at_call 18; (with_reducible refine (posternlaw14_good.calls t228 t229 true _ A106.out).mono ?_); rintro e w129 ⟨rfl, hb⟩; have n0_ := Aside0.mk (blk_below (g := gb211) (o := .cells #[.int .u64 a0_0, .int .u64 a0_1] 24 (0, 0)) (by (with_reducible repeat (first | apply bN | apply bD | apply bA)); exact BK211.out) hb); have n1_ := Aside0.mk (blk_below (g := gb212) (o := .cells #[.int .u64 a1_0, .int .u64 a1_1] 24 (0, 0)) (by (with_reducible repeat (first | apply bN | apply bD | apply bA)); exact BK212.out) hb); have n2_ := Aside0.mk (blk_below (g := gb230) (o := .cells #[.int .u64 t228, .int .u64 t229] 24 (0, 0)) (by (with_reducible repeat (first | apply bN | apply bD | apply bA)); exact BK230.out) hb); have n3_ := Aside0.mk (blk_below (g := gb234) (o := .cells #[.int .u64 t231, .int .u64 t232] 24 (0, 0)) (by (with_reducible repeat (first | apply bN | apply bD | apply bA)); exact BK234.out) hb); have n4_ := Aside0.mk (below_step (by repeat (first | (with_reducible first | exact HB.out | apply lA | apply lN | apply lD | refine lS ?_ ‹_›) | exact HB.out)) hb); clear BK211; clear BK212; clear BK230; clear BK234; clear HB; have BK211 := n0_; have BK212 := n1_; have BK230 := n2_; have BK234 := n3_; have HB := n4_; clear n0_ n1_ n2_ n3_ n4_; (try clear hb); (try clear hb2); (try clear hk); (try clear hi); have hcz130_0 : w129.cell? ⟨gb234, 0, none⟩ = some (.int .u64 t231) := (blk_cell BK234.out 0).trans rfl; have hcz130_1 : w129.cell? ⟨gb234, 1, none⟩ = some (.int .u64 t232) := (blk_cell BK234.out 1).trans rfl; have hfz130_0 := blk_frozen BK234.out 0; have hfz130_1 := blk_frozen BK234.out 1) | (go_at_call 18; (with_reducible refine (posternlaw14_good.calls t231 t232 true _ A108.out).mono ?_); rintro e w131 ⟨rfl, hb⟩; have n0_ := Aside0.mk (blk_below (g := gb211) (o := .cells #[.int .u64 a0_0, .int .u64 a0_1] 24 (0, 0)) (by (with_reducible repeat (first | apply bN | apply bD | apply bA)); exact BK211.out) hb); have n1_ := Aside0.mk (blk_below (g := gb212) (o := .cells #[.int .u64 a1_0, .int .u64 a1_1] 24 (0, 0)) (by (with_reducible repeat (first | apply bN | apply bD | apply bA)); exact BK212.out) hb); have n2_ := Aside0.mk (blk_below (g := gb230) (o := .cells #[.int .u64 t228, .int .u64 t229] 24 (0, 0)) (by (with_reducible repeat (first | apply bN | apply bD | apply bA)); exact BK230.out) hb); have n3_ := Aside0.mk (blk_below (g := gb234) (o := .cells #[.int .u64 t231, .int .u64 t232] 24 (0, 0)) (by (with_reducible repeat (first | apply bN | apply bD | apply bA)); exact BK234.out) hb); have n4_ := Aside0.mk (below_step (by repeat (first | (with_reducible first | exact HB.out | apply lA | apply lN | apply lD | refine lS ?_ ‹_›) | exact HB.out)) hb); clear BK211; clear BK212; clear BK230; clear BK234; clear HB; have BK211 := n0_; have BK212 := n1_; have BK230 := n2_; have BK234 := n3_; have HB := n4_; clear n0_ n1_ n2_ n3_ n4_; (try clear hb); (try clear hb2); (try clear hk); (try clear hi); have hcz132_0 : w131.cell? ⟨gb230, 0, none⟩ = some (.int .u64 t228) := (blk_cell BK230.out 0).trans rfl; have hcz132_1 : w131.cell? ⟨gb230, 1, none⟩ = some (.int .u64 t229) := (blk_cell BK230.out 1).trans rfl; have hfz132_0 := blk_frozen BK230.out 0; have hfz132_1 := blk_frozen BK230.out 1) | (go_at_call 19; (with_reducible refine (tnum_Has.calls t228 t229 t214 true _ A110.out).mono ?_); rintro e w133 ⟨rfl, hb⟩; have n0_ := Aside0.mk (blk_below (g := gb211) (o := .cells #[.int .u64 a0_0, .int .u64 a0_1] 24 (0, 0)) (by (with_reducible repeat (first | apply bN | apply bD | apply bA)); exact BK211.out) hb); have n1_ := Aside0.mk (blk_below (g := gb212) (o := .cells #[.int .u64 a1_0, .int .u64 a1_1] 24 (0, 0)) (by (with_reducible repeat (first | apply bN | apply bD | apply bA)); exact BK212.out) hb); have n2_ := Aside0.mk (blk_below (g := gb230) (o := .cells #[.int .u64 t228, .int .u64 t229] 24 (0, 0)) (by (with_reducible repeat (first | apply bN | apply bD | apply bA)); exact BK230.out) hb); have n3_ := Aside0.mk (blk_below (g := gb234) (o := .cells #[.int .u64 t231, .int .u64 t232] 24 (0, 0)) (by (with_reducible repeat (first | apply bN | apply bD | apply bA)); exact BK234.out) hb); have n4_ := Aside0.mk (below_step (by repeat (first | (with_reducible first | exact HB.out | apply lA | apply lN | apply lD | refine lS ?_ ‹_›) | exact HB.out)) hb); clear BK211; clear BK212; clear BK230; clear BK234; clear HB; have BK211 := n0_; have BK212 := n1_; have BK230 := n2_; have BK234 := n3_; have HB := n4_; clear n0_ n1_ n2_ n3_ n4_; (try clear hb); (try clear hb2); (try clear hk); (try clear hi); have hcz134_0 : w133.cell? ⟨gb230, 0, none⟩ = some (.int .u64 t228) := (blk_cell BK230.out 0).trans rfl; have hcz134_1 : w133.cell? ⟨gb230, 1, none⟩ = some (.int .u64 t229) := (blk_cell BK230.out 1).trans rfl; have hfz134_0 := blk_frozen BK230.out 0; have hfz134_1 := blk_frozen BK230.out 1) | (go_at_call 19; (with_reducible refine (tnum_Has.calls t228 t229 t215 t241 _ A112.out).mono ?_); rintro e w135 ⟨rfl, hb⟩; have n0_ := Aside0.mk (blk_below (g := gb211) (o := .cells #[.int .u64 a0_0, .int .u64 a0_1] 24 (0, 0)) (by (with_reducible repeat (first | apply bN | apply bD | apply bA)); exact BK211.out) hb); have n1_ := Aside0.mk (blk_below (g := gb212) (o := .cells #[.int .u64 a1_0, .int .u64 a1_1] 24 (0, 0)) (by (with_reducible repeat (first | apply bN | apply bD | apply bA)); exact BK212.out) hb); have n2_ := Aside0.mk (blk_below (g := gb230) (o := .cells #[.int .u64 t228, .int .u64 t229] 24 (0, 0)) (by (with_reducible repeat (first | apply bN | apply bD | apply bA)); exact BK230.out) hb); have n3_ := Aside0.mk (blk_below (g := gb234) (o := .cells #[.int .u64 t231, .int .u64 t232] 24 (0, 0)) (by (with_reducible repeat (first | apply bN | apply bD | apply bA)); exact BK234.out) hb); have n4_ := Aside0.mk (below_step (by repeat (first | (with_reducible first | exact HB.out | apply lA | apply lN | apply lD | refine lS ?_ ‹_›) | exact HB.out)) hb); clear BK211; clear BK212; clear BK230; clear BK234; clear HB; have BK211 := n0_; have BK212 := n1_; have BK230 := n2_; have BK234 := n3_; have HB := n4_; clear n0_ n1_ n2_ n3_ n4_; (try clear hb); (try clear hb2); (try clear hk); (try clear hi)))
              go_meet
              case rel => exact ⟨_, (!t241), (by first | rfl | (simp; done) | (simp [*]; done)), H', ⟨by have := HJ7.out; have := HJ62.out; first | omega | exact Nat.le_refl _⟩, ⟨by (with_reducible repeat (first | apply bN | apply bD | apply bA)); exact BK211.out⟩, ⟨by (with_reducible repeat (first | apply bN | apply bD | apply bA)); exact BK212.out⟩, ⟨by (with_reducible repeat (first | apply bN | apply bD | apply bA)); exact BK230.out⟩, ⟨by (with_reducible repeat (first | apply bN | apply bD | apply bA)); exact BK234.out⟩, ⟨by repeat (first | (with_reducible first | exact HB.out | apply lA | apply lN | apply lD | refine lS ?_ ‹_›) | exact HB.out)⟩⟩
             ·
              replace c111 := Bool.eq_false_iff.mpr c111
              subst c111
              have H1 : (posternlaw14_TnumSets.j2 kj62 a2 t233 true a0_0 a0_1 a1_0 a1_1 t228 t229 t231 t232) = some r := by rw [if_neg (show ¬ (false = true) by decide)] at H; exact H
              clear H; have H := H1; clear H1; have H' := Aside0.mk H
              clear H; have hnb136 := NB211_212.out; have hnc136 := NB212_211.out; have hnb137 := NB211_230.out; have hnc137 := NB230_211.out; have hnb138 := NB211_234.out; have hnc138 := NB234_211.out; have hcz139_0 : w87.cell? ⟨gb211, 0, none⟩ = some (.int .u64 a0_0) := (blk_cell BK211.out 0).trans rfl; have hcz139_1 : w87.cell? ⟨gb211, 1, none⟩ = some (.int .u64 a0_1) := (blk_cell BK211.out 1).trans rfl; have hfz139_0 := blk_frozen BK211.out 0; have hfz139_1 := blk_frozen BK211.out 1; have hnb140 := NB212_230.out; have hnc140 := NB230_212.out; have hnb141 := NB212_234.out; have hnc141 := NB234_212.out; have hcz142_0 : w87.cell? ⟨gb212, 0, none⟩ = some (.int .u64 a1_0) := (blk_cell BK212.out 0).trans rfl; have hcz142_1 : w87.cell? ⟨gb212, 1, none⟩ = some (.int .u64 a1_1) := (blk_cell BK212.out 1).trans rfl; have hfz142_0 := blk_frozen BK212.out 0; have hfz142_1 := blk_frozen BK212.out 1
              go_wp2_with (first | ((with_reducible refine gate_callee (f := 28) rfl ?_); refine goesL_ (some 79) rfl rfl Try.func28 (by kernel_rfl) rfl #[.agg #[.int .u64 a0_0, .int .u64 a0_1], .agg #[.int .u64 a1_0, .int .u64 a1_1]] rfl (by (try simp only [List.map_toArray, List.map_cons, List.map_nil]); first | done | rfl | (simp only [List.length_drop, List.length_take]; rfl)) ?_; (with_reducible refine (tnum_In.calls a0_0 a0_1 a1_0 a1_1 t235 _ A92.out).mono ?_); rintro e w143 ⟨rfl, hb⟩; refine ⟨_, rfl, ?_⟩; have n0_ := Aside0.mk (blk_below (g := gb211) (o := .cells #[.int .u64 a0_0, .int .u64 a0_1] 24 (0, 0)) (by (with_reducible repeat (first | apply bN | apply bD | apply bA)); refine blk_far ?_ NB211_234.out _; (with_reducible repeat (first | apply bN | apply bD | apply bA)); refine blk_far ?_ NB211_234.out _; (with_reducible repeat (first | apply bN | apply bD | apply bA)); exact BK211.out) hb); have n1_ := Aside0.mk (blk_below (g := gb212) (o := .cells #[.int .u64 a1_0, .int .u64 a1_1] 24 (0, 0)) (by (with_reducible repeat (first | apply bN | apply bD | apply bA)); refine blk_far ?_ NB212_234.out _; (with_reducible repeat (first | apply bN | apply bD | apply bA)); refine blk_far ?_ NB212_234.out _; (with_reducible repeat (first | apply bN | apply bD | apply bA)); exact BK212.out) hb); have n2_ := Aside0.mk (blk_below (g := gb230) (o := .cells #[.int .u64 t228, .int .u64 t229] 24 (0, 0)) (by (with_reducible repeat (first | apply bN | apply bD | apply bA)); refine blk_far ?_ NB230_234.out _; (with_reducible repeat (first | apply bN | apply bD | apply bA)); refine blk_far ?_ NB230_234.out _; (with_reducible repeat (first | apply bN | apply bD | apply bA)); exact BK230.out) hb); have n3_ := Aside0.mk (blk_below (g := gb234) (o := .cells #[.int .u64 t231, .int .u64 t232] 24 (0, 0)) (by (with_reducible repeat (first | apply bN | apply bD | apply bA)); refine blk_put (cs := #[.int .u64 t231, .int .u64 0]) ?_ 1 _ rfl; (with_reducible repeat (first | apply bN | apply bD | apply bA)); refine blk_put (cs := #[.int .u64 0, .int .u64 0]) ?_ 0 _ rfl; (with_reducible repeat (first | apply bN | apply bD | apply bA)); exact BK234.out) hb); have n4_ := Aside0.mk (below_step (by repeat (first | (with_reducible first | exact HB.out | apply lA | apply lN | apply lD | refine lS ?_ ‹_›) | exact HB.out)) hb); clear BK211; clear BK212; clear BK230; clear BK234; clear HB; have BK211 := n0_; have BK212 := n1_; have BK230 := n2_; have BK234 := n3_; have HB := n4_; clear n0_ n1_ n2_ n3_ n4_; (try clear hb); (try clear hb2); (try clear hk); (try clear hi); have hcz144_0 : w143.cell? ⟨gb211, 0, none⟩ = some (.int .u64 a0_0) := (blk_cell BK211.out 0).trans rfl; have hcz144_1 : w143.cell? ⟨gb211, 1, none⟩ = some (.int .u64 a0_1) := (blk_cell BK211.out 1).trans rfl; have hfz144_0 := blk_frozen BK211.out 0; have hfz144_1 := blk_frozen BK211.out 1; have hnb145 := NB230_234.out; have hnc145 := NB234_230.out; have hcz146_0 : w143.cell? ⟨gb230, 0, none⟩ = some (.int .u64 t228) := (blk_cell BK230.out 0).trans rfl; have hcz146_1 : w143.cell? ⟨gb230, 1, none⟩ = some (.int .u64 t229) := (blk_cell BK230.out 1).trans rfl; have hfz146_0 := blk_frozen BK230.out 0; have hfz146_1 := blk_frozen BK230.out 1) | (go_at_call 28; (with_reducible refine (tnum_In.calls a0_0 a0_1 t228 t229 true _ A102.out).mono ?_); rintro e w147 ⟨rfl, hb⟩; have n0_ := Aside0.mk (blk_below (g := gb211) (o := .cells #[.int .u64 a0_0, .int .u64 a0_1] 24 (0, 0)) (by (with_reducible repeat (first | apply bN | apply bD | apply bA)); exact BK211.out) hb); have n1_ := Aside0.mk (blk_below (g := gb212) (o := .cells #[.int .u64 a1_0, .int .u64 a1_1] 24 (0, 0)) (by (with_reducible repeat (first | apply bN | apply bD | apply bA)); exact BK212.out) hb); have n2_ := Aside0.mk (blk_below (g := gb230) (o := .cells #[.int .u64 t228, .int .u64 t229] 24 (0, 0)) (by (with_reducible repeat (first | apply bN | apply bD | apply bA)); exact BK230.out) hb); have n3_ := Aside0.mk (blk_below (g := gb234) (o := .cells #[.int .u64 t231, .int .u64 t232] 24 (0, 0)) (by (with_reducible repeat (first | apply bN | apply bD | apply bA)); exact BK234.out) hb); have n4_ := Aside0.mk (below_step (by repeat (first | (with_reducible first | exact HB.out | apply lA | apply lN | apply lD | refine lS ?_ ‹_›) | exact HB.out)) hb); clear BK211; clear BK212; clear BK230; clear BK234; clear HB; have BK211 := n0_; have BK212 := n1_; have BK230 := n2_; have BK234 := n3_; have HB := n4_; clear n0_ n1_ n2_ n3_ n4_; (try clear hb); (try clear hb2); (try clear hk); (try clear hi); have hcz148_0 : w147.cell? ⟨gb212, 0, none⟩ = some (.int .u64 a1_0) := (blk_cell BK212.out 0).trans rfl; have hcz148_1 : w147.cell? ⟨gb212, 1, none⟩ = some (.int .u64 a1_1) := (blk_cell BK212.out 1).trans rfl; have hfz148_0 := blk_frozen BK212.out 0; have hfz148_1 := blk_frozen BK212.out 1; have hcz149_0 : w147.cell? ⟨gb230, 0, none⟩ = some (.int .u64 t228) := (blk_cell BK230.out 0).trans rfl; have hcz149_1 : w147.cell? ⟨gb230, 1, none⟩ = some (.int .u64 t229) := (blk_cell BK230.out 1).trans rfl; have hfz149_0 := blk_frozen BK230.out 0; have hfz149_1 := blk_frozen BK230.out 1) | (go_at_call 28; (with_reducible refine (tnum_In.calls a1_0 a1_1 t228 t229 true _ A104.out).mono ?_); rintro e w150 ⟨rfl, hb⟩; have n0_ := Aside0.mk (blk_below (g := gb211) (o := .cells #[.int .u64 a0_0, .int .u64 a0_1] 24 (0, 0)) (by (with_reducible repeat (first | apply bN | apply bD | apply bA)); exact BK211.out) hb); have n1_ := Aside0.mk (blk_below (g := gb212) (o := .cells #[.int .u64 a1_0, .int .u64 a1_1] 24 (0, 0)) (by (with_reducible repeat (first | apply bN | apply bD | apply bA)); exact BK212.out) hb); have n2_ := Aside0.mk (blk_below (g := gb230) (o := .cells #[.int .u64 t228, .int .u64 t229] 24 (0, 0)) (by (with_reducible repeat (first | apply bN | apply bD | apply bA)); exact BK230.out) hb); have n3_ := Aside0.mk (blk_below (g := gb234) (o := .cells #[.int .u64 t231, .int .u64 t232] 24 (0, 0)) (by (with_reducible repeat (first | apply bN | apply bD | apply bA)); exact BK234.out) hb); have n4_ := Aside0.mk (below_step (by repeat (first | (with_reducible first | exact HB.out | apply lA | apply lN | apply lD | refine lS ?_ ‹_›) | exact HB.out)) hb); clear BK211; clear BK212; clear BK230; clear BK234; clear HB; have BK211 := n0_; have BK212 := n1_; have BK230 := n2_; have BK234 := n3_; have HB := n4_; clear n0_ n1_ n2_ n3_ n4_; (try clear hb); (try clear hb2); (try clear hk); (try clear hi); have hcz151_0 : w150.cell? ⟨gb230, 0, none⟩ = some (.int .u64 t228) := (blk_cell BK230.out 0).trans rfl; have hcz151_1 : w150.cell? ⟨gb230, 1, none⟩ = some (.int .u64 t229) := (blk_cell BK230.out 1).trans rfl; have hfz151_0 := blk_frozen BK230.out 0; have hfz151_1 := blk_frozen BK230.out 1) | (go_at_call 18; (with_reducible refine (posternlaw14_good.calls t228 t229 true _ A106.out).mono ?_); rintro e w152 ⟨rfl, hb⟩; have n0_ := Aside0.mk (blk_below (g := gb211) (o := .cells #[.int .u64 a0_0, .int .u64 a0_1] 24 (0, 0)) (by (with_reducible repeat (first | apply bN | apply bD | apply bA)); exact BK211.out) hb); have n1_ := Aside0.mk (blk_below (g := gb212) (o := .cells #[.int .u64 a1_0, .int .u64 a1_1] 24 (0, 0)) (by (with_reducible repeat (first | apply bN | apply bD | apply bA)); exact BK212.out) hb); have n2_ := Aside0.mk (blk_below (g := gb230) (o := .cells #[.int .u64 t228, .int .u64 t229] 24 (0, 0)) (by (with_reducible repeat (first | apply bN | apply bD | apply bA)); exact BK230.out) hb); have n3_ := Aside0.mk (blk_below (g := gb234) (o := .cells #[.int .u64 t231, .int .u64 t232] 24 (0, 0)) (by (with_reducible repeat (first | apply bN | apply bD | apply bA)); exact BK234.out) hb); have n4_ := Aside0.mk (below_step (by repeat (first | (with_reducible first | exact HB.out | apply lA | apply lN | apply lD | refine lS ?_ ‹_›) | exact HB.out)) hb); clear BK211; clear BK212; clear BK230; clear BK234; clear HB; have BK211 := n0_; have BK212 := n1_; have BK230 := n2_; have BK234 := n3_; have HB := n4_; clear n0_ n1_ n2_ n3_ n4_; (try clear hb); (try clear hb2); (try clear hk); (try clear hi); have hcz153_0 : w152.cell? ⟨gb234, 0, none⟩ = some (.int .u64 t231) := (blk_cell BK234.out 0).trans rfl; have hcz153_1 : w152.cell? ⟨gb234, 1, none⟩ = some (.int .u64 t232) := (blk_cell BK234.out 1).trans rfl; have hfz153_0 := blk_frozen BK234.out 0; have hfz153_1 := blk_frozen BK234.out 1) | (go_at_call 18; (with_reducible refine (posternlaw14_good.calls t231 t232 true _ A108.out).mono ?_); rintro e w154 ⟨rfl, hb⟩; have n0_ := Aside0.mk (blk_below (g := gb211) (o := .cells #[.int .u64 a0_0, .int .u64 a0_1] 24 (0, 0)) (by (with_reducible repeat (first | apply bN | apply bD | apply bA)); exact BK211.out) hb); have n1_ := Aside0.mk (blk_below (g := gb212) (o := .cells #[.int .u64 a1_0, .int .u64 a1_1] 24 (0, 0)) (by (with_reducible repeat (first | apply bN | apply bD | apply bA)); exact BK212.out) hb); have n2_ := Aside0.mk (blk_below (g := gb230) (o := .cells #[.int .u64 t228, .int .u64 t229] 24 (0, 0)) (by (with_reducible repeat (first | apply bN | apply bD | apply bA)); exact BK230.out) hb); have n3_ := Aside0.mk (blk_below (g := gb234) (o := .cells #[.int .u64 t231, .int .u64 t232] 24 (0, 0)) (by (with_reducible repeat (first | apply bN | apply bD | apply bA)); exact BK234.out) hb); have n4_ := Aside0.mk (below_step (by repeat (first | (with_reducible first | exact HB.out | apply lA | apply lN | apply lD | refine lS ?_ ‹_›) | exact HB.out)) hb); clear BK211; clear BK212; clear BK230; clear BK234; clear HB; have BK211 := n0_; have BK212 := n1_; have BK230 := n2_; have BK234 := n3_; have HB := n4_; clear n0_ n1_ n2_ n3_ n4_; (try clear hb); (try clear hb2); (try clear hk); (try clear hi); have hcz155_0 : w154.cell? ⟨gb230, 0, none⟩ = some (.int .u64 t228) := (blk_cell BK230.out 0).trans rfl; have hcz155_1 : w154.cell? ⟨gb230, 1, none⟩ = some (.int .u64 t229) := (blk_cell BK230.out 1).trans rfl; have hfz155_0 := blk_frozen BK230.out 0; have hfz155_1 := blk_frozen BK230.out 1) | (go_at_call 19; (with_reducible refine (tnum_Has.calls t228 t229 t214 false _ A110.out).mono ?_); rintro e w156 ⟨rfl, hb⟩; have n0_ := Aside0.mk (blk_below (g := gb211) (o := .cells #[.int .u64 a0_0, .int .u64 a0_1] 24 (0, 0)) (by (with_reducible repeat (first | apply bN | apply bD | apply bA)); exact BK211.out) hb); have n1_ := Aside0.mk (blk_below (g := gb212) (o := .cells #[.int .u64 a1_0, .int .u64 a1_1] 24 (0, 0)) (by (with_reducible repeat (first | apply bN | apply bD | apply bA)); exact BK212.out) hb); have n2_ := Aside0.mk (blk_below (g := gb230) (o := .cells #[.int .u64 t228, .int .u64 t229] 24 (0, 0)) (by (with_reducible repeat (first | apply bN | apply bD | apply bA)); exact BK230.out) hb); have n3_ := Aside0.mk (blk_below (g := gb234) (o := .cells #[.int .u64 t231, .int .u64 t232] 24 (0, 0)) (by (with_reducible repeat (first | apply bN | apply bD | apply bA)); exact BK234.out) hb); have n4_ := Aside0.mk (below_step (by repeat (first | (with_reducible first | exact HB.out | apply lA | apply lN | apply lD | refine lS ?_ ‹_›) | exact HB.out)) hb); clear BK211; clear BK212; clear BK230; clear BK234; clear HB; have BK211 := n0_; have BK212 := n1_; have BK230 := n2_; have BK234 := n3_; have HB := n4_; clear n0_ n1_ n2_ n3_ n4_; (try clear hb); (try clear hb2); (try clear hk); (try clear hi)))
              go_meet
              case rel => exact ⟨_, (true), (by first | rfl | (simp; done) | (simp [*]; done)), H', ⟨by have := HJ7.out; have := HJ62.out; first | omega | exact Nat.le_refl _⟩, ⟨by (with_reducible repeat (first | apply bN | apply bD | apply bA)); exact BK211.out⟩, ⟨by (with_reducible repeat (first | apply bN | apply bD | apply bA)); exact BK212.out⟩, ⟨by (with_reducible repeat (first | apply bN | apply bD | apply bA)); exact BK230.out⟩, ⟨by (with_reducible repeat (first | apply bN | apply bD | apply bA)); exact BK234.out⟩, ⟨by repeat (first | (with_reducible first | exact HB.out | apply lA | apply lN | apply lD | refine lS ?_ ‹_›) | exact HB.out)⟩⟩
            ·
             replace c109 := Bool.eq_false_iff.mpr c109
             subst c109
             have H1 : (posternlaw14_TnumSets.j2 kj62 a2 t233 true a0_0 a0_1 a1_0 a1_1 t228 t229 t231 t232) = some r := by rw [if_neg (show ¬ (false = true) by decide)] at H; exact H
             clear H; have H := H1; clear H1; have H' := Aside0.mk H
             clear H; have hnb157 := NB211_212.out; have hnc157 := NB212_211.out; have hnb158 := NB211_230.out; have hnc158 := NB230_211.out; have hnb159 := NB211_234.out; have hnc159 := NB234_211.out; have hcz160_0 : w87.cell? ⟨gb211, 0, none⟩ = some (.int .u64 a0_0) := (blk_cell BK211.out 0).trans rfl; have hcz160_1 : w87.cell? ⟨gb211, 1, none⟩ = some (.int .u64 a0_1) := (blk_cell BK211.out 1).trans rfl; have hfz160_0 := blk_frozen BK211.out 0; have hfz160_1 := blk_frozen BK211.out 1; have hnb161 := NB212_230.out; have hnc161 := NB230_212.out; have hnb162 := NB212_234.out; have hnc162 := NB234_212.out; have hcz163_0 : w87.cell? ⟨gb212, 0, none⟩ = some (.int .u64 a1_0) := (blk_cell BK212.out 0).trans rfl; have hcz163_1 : w87.cell? ⟨gb212, 1, none⟩ = some (.int .u64 a1_1) := (blk_cell BK212.out 1).trans rfl; have hfz163_0 := blk_frozen BK212.out 0; have hfz163_1 := blk_frozen BK212.out 1
             go_wp2_with (first | ((with_reducible refine gate_callee (f := 28) rfl ?_); refine goesL_ (some 79) rfl rfl Try.func28 (by kernel_rfl) rfl #[.agg #[.int .u64 a0_0, .int .u64 a0_1], .agg #[.int .u64 a1_0, .int .u64 a1_1]] rfl (by (try simp only [List.map_toArray, List.map_cons, List.map_nil]); first | done | rfl | (simp only [List.length_drop, List.length_take]; rfl)) ?_; (with_reducible refine (tnum_In.calls a0_0 a0_1 a1_0 a1_1 t235 _ A92.out).mono ?_); rintro e w164 ⟨rfl, hb⟩; refine ⟨_, rfl, ?_⟩; have n0_ := Aside0.mk (blk_below (g := gb211) (o := .cells #[.int .u64 a0_0, .int .u64 a0_1] 24 (0, 0)) (by (with_reducible repeat (first | apply bN | apply bD | apply bA)); refine blk_far ?_ NB211_234.out _; (with_reducible repeat (first | apply bN | apply bD | apply bA)); refine blk_far ?_ NB211_234.out _; (with_reducible repeat (first | apply bN | apply bD | apply bA)); exact BK211.out) hb); have n1_ := Aside0.mk (blk_below (g := gb212) (o := .cells #[.int .u64 a1_0, .int .u64 a1_1] 24 (0, 0)) (by (with_reducible repeat (first | apply bN | apply bD | apply bA)); refine blk_far ?_ NB212_234.out _; (with_reducible repeat (first | apply bN | apply bD | apply bA)); refine blk_far ?_ NB212_234.out _; (with_reducible repeat (first | apply bN | apply bD | apply bA)); exact BK212.out) hb); have n2_ := Aside0.mk (blk_below (g := gb230) (o := .cells #[.int .u64 t228, .int .u64 t229] 24 (0, 0)) (by (with_reducible repeat (first | apply bN | apply bD | apply bA)); refine blk_far ?_ NB230_234.out _; (with_reducible repeat (first | apply bN | apply bD | apply bA)); refine blk_far ?_ NB230_234.out _; (with_reducible repeat (first | apply bN | apply bD | apply bA)); exact BK230.out) hb); have n3_ := Aside0.mk (blk_below (g := gb234) (o := .cells #[.int .u64 t231, .int .u64 t232] 24 (0, 0)) (by (with_reducible repeat (first | apply bN | apply bD | apply bA)); refine blk_put (cs := #[.int .u64 t231, .int .u64 0]) ?_ 1 _ rfl; (with_reducible repeat (first | apply bN | apply bD | apply bA)); refine blk_put (cs := #[.int .u64 0, .int .u64 0]) ?_ 0 _ rfl; (with_reducible repeat (first | apply bN | apply bD | apply bA)); exact BK234.out) hb); have n4_ := Aside0.mk (below_step (by repeat (first | (with_reducible first | exact HB.out | apply lA | apply lN | apply lD | refine lS ?_ ‹_›) | exact HB.out)) hb); clear BK211; clear BK212; clear BK230; clear BK234; clear HB; have BK211 := n0_; have BK212 := n1_; have BK230 := n2_; have BK234 := n3_; have HB := n4_; clear n0_ n1_ n2_ n3_ n4_; (try clear hb); (try clear hb2); (try clear hk); (try clear hi); have hcz165_0 : w164.cell? ⟨gb211, 0, none⟩ = some (.int .u64 a0_0) := (blk_cell BK211.out 0).trans rfl; have hcz165_1 : w164.cell? ⟨gb211, 1, none⟩ = some (.int .u64 a0_1) := (blk_cell BK211.out 1).trans rfl; have hfz165_0 := blk_frozen BK211.out 0; have hfz165_1 := blk_frozen BK211.out 1; have hnb166 := NB230_234.out; have hnc166 := NB234_230.out; have hcz167_0 : w164.cell? ⟨gb230, 0, none⟩ = some (.int .u64 t228) := (blk_cell BK230.out 0).trans rfl; have hcz167_1 : w164.cell? ⟨gb230, 1, none⟩ = some (.int .u64 t229) := (blk_cell BK230.out 1).trans rfl; have hfz167_0 := blk_frozen BK230.out 0; have hfz167_1 := blk_frozen BK230.out 1) | (go_at_call 28; (with_reducible refine (tnum_In.calls a0_0 a0_1 t228 t229 true _ A102.out).mono ?_); rintro e w168 ⟨rfl, hb⟩; have n0_ := Aside0.mk (blk_below (g := gb211) (o := .cells #[.int .u64 a0_0, .int .u64 a0_1] 24 (0, 0)) (by (with_reducible repeat (first | apply bN | apply bD | apply bA)); exact BK211.out) hb); have n1_ := Aside0.mk (blk_below (g := gb212) (o := .cells #[.int .u64 a1_0, .int .u64 a1_1] 24 (0, 0)) (by (with_reducible repeat (first | apply bN | apply bD | apply bA)); exact BK212.out) hb); have n2_ := Aside0.mk (blk_below (g := gb230) (o := .cells #[.int .u64 t228, .int .u64 t229] 24 (0, 0)) (by (with_reducible repeat (first | apply bN | apply bD | apply bA)); exact BK230.out) hb); have n3_ := Aside0.mk (blk_below (g := gb234) (o := .cells #[.int .u64 t231, .int .u64 t232] 24 (0, 0)) (by (with_reducible repeat (first | apply bN | apply bD | apply bA)); exact BK234.out) hb); have n4_ := Aside0.mk (below_step (by repeat (first | (with_reducible first | exact HB.out | apply lA | apply lN | apply lD | refine lS ?_ ‹_›) | exact HB.out)) hb); clear BK211; clear BK212; clear BK230; clear BK234; clear HB; have BK211 := n0_; have BK212 := n1_; have BK230 := n2_; have BK234 := n3_; have HB := n4_; clear n0_ n1_ n2_ n3_ n4_; (try clear hb); (try clear hb2); (try clear hk); (try clear hi); have hcz169_0 : w168.cell? ⟨gb212, 0, none⟩ = some (.int .u64 a1_0) := (blk_cell BK212.out 0).trans rfl; have hcz169_1 : w168.cell? ⟨gb212, 1, none⟩ = some (.int .u64 a1_1) := (blk_cell BK212.out 1).trans rfl; have hfz169_0 := blk_frozen BK212.out 0; have hfz169_1 := blk_frozen BK212.out 1; have hcz170_0 : w168.cell? ⟨gb230, 0, none⟩ = some (.int .u64 t228) := (blk_cell BK230.out 0).trans rfl; have hcz170_1 : w168.cell? ⟨gb230, 1, none⟩ = some (.int .u64 t229) := (blk_cell BK230.out 1).trans rfl; have hfz170_0 := blk_frozen BK230.out 0; have hfz170_1 := blk_frozen BK230.out 1) | (go_at_call 28; (with_reducible refine (tnum_In.calls a1_0 a1_1 t228 t229 true _ A104.out).mono ?_); rintro e w171 ⟨rfl, hb⟩; have n0_ := Aside0.mk (blk_below (g := gb211) (o := .cells #[.int .u64 a0_0, .int .u64 a0_1] 24 (0, 0)) (by (with_reducible repeat (first | apply bN | apply bD | apply bA)); exact BK211.out) hb); have n1_ := Aside0.mk (blk_below (g := gb212) (o := .cells #[.int .u64 a1_0, .int .u64 a1_1] 24 (0, 0)) (by (with_reducible repeat (first | apply bN | apply bD | apply bA)); exact BK212.out) hb); have n2_ := Aside0.mk (blk_below (g := gb230) (o := .cells #[.int .u64 t228, .int .u64 t229] 24 (0, 0)) (by (with_reducible repeat (first | apply bN | apply bD | apply bA)); exact BK230.out) hb); have n3_ := Aside0.mk (blk_below (g := gb234) (o := .cells #[.int .u64 t231, .int .u64 t232] 24 (0, 0)) (by (with_reducible repeat (first | apply bN | apply bD | apply bA)); exact BK234.out) hb); have n4_ := Aside0.mk (below_step (by repeat (first | (with_reducible first | exact HB.out | apply lA | apply lN | apply lD | refine lS ?_ ‹_›) | exact HB.out)) hb); clear BK211; clear BK212; clear BK230; clear BK234; clear HB; have BK211 := n0_; have BK212 := n1_; have BK230 := n2_; have BK234 := n3_; have HB := n4_; clear n0_ n1_ n2_ n3_ n4_; (try clear hb); (try clear hb2); (try clear hk); (try clear hi); have hcz172_0 : w171.cell? ⟨gb230, 0, none⟩ = some (.int .u64 t228) := (blk_cell BK230.out 0).trans rfl; have hcz172_1 : w171.cell? ⟨gb230, 1, none⟩ = some (.int .u64 t229) := (blk_cell BK230.out 1).trans rfl; have hfz172_0 := blk_frozen BK230.out 0; have hfz172_1 := blk_frozen BK230.out 1) | (go_at_call 18; (with_reducible refine (posternlaw14_good.calls t228 t229 true _ A106.out).mono ?_); rintro e w173 ⟨rfl, hb⟩; have n0_ := Aside0.mk (blk_below (g := gb211) (o := .cells #[.int .u64 a0_0, .int .u64 a0_1] 24 (0, 0)) (by (with_reducible repeat (first | apply bN | apply bD | apply bA)); exact BK211.out) hb); have n1_ := Aside0.mk (blk_below (g := gb212) (o := .cells #[.int .u64 a1_0, .int .u64 a1_1] 24 (0, 0)) (by (with_reducible repeat (first | apply bN | apply bD | apply bA)); exact BK212.out) hb); have n2_ := Aside0.mk (blk_below (g := gb230) (o := .cells #[.int .u64 t228, .int .u64 t229] 24 (0, 0)) (by (with_reducible repeat (first | apply bN | apply bD | apply bA)); exact BK230.out) hb); have n3_ := Aside0.mk (blk_below (g := gb234) (o := .cells #[.int .u64 t231, .int .u64 t232] 24 (0, 0)) (by (with_reducible repeat (first | apply bN | apply bD | apply bA)); exact BK234.out) hb); have n4_ := Aside0.mk (below_step (by repeat (first | (with_reducible first | exact HB.out | apply lA | apply lN | apply lD | refine lS ?_ ‹_›) | exact HB.out)) hb); clear BK211; clear BK212; clear BK230; clear BK234; clear HB; have BK211 := n0_; have BK212 := n1_; have BK230 := n2_; have BK234 := n3_; have HB := n4_; clear n0_ n1_ n2_ n3_ n4_; (try clear hb); (try clear hb2); (try clear hk); (try clear hi); have hcz174_0 : w173.cell? ⟨gb234, 0, none⟩ = some (.int .u64 t231) := (blk_cell BK234.out 0).trans rfl; have hcz174_1 : w173.cell? ⟨gb234, 1, none⟩ = some (.int .u64 t232) := (blk_cell BK234.out 1).trans rfl; have hfz174_0 := blk_frozen BK234.out 0; have hfz174_1 := blk_frozen BK234.out 1) | (go_at_call 18; (with_reducible refine (posternlaw14_good.calls t231 t232 false _ A108.out).mono ?_); rintro e w175 ⟨rfl, hb⟩; have n0_ := Aside0.mk (blk_below (g := gb211) (o := .cells #[.int .u64 a0_0, .int .u64 a0_1] 24 (0, 0)) (by (with_reducible repeat (first | apply bN | apply bD | apply bA)); exact BK211.out) hb); have n1_ := Aside0.mk (blk_below (g := gb212) (o := .cells #[.int .u64 a1_0, .int .u64 a1_1] 24 (0, 0)) (by (with_reducible repeat (first | apply bN | apply bD | apply bA)); exact BK212.out) hb); have n2_ := Aside0.mk (blk_below (g := gb230) (o := .cells #[.int .u64 t228, .int .u64 t229] 24 (0, 0)) (by (with_reducible repeat (first | apply bN | apply bD | apply bA)); exact BK230.out) hb); have n3_ := Aside0.mk (blk_below (g := gb234) (o := .cells #[.int .u64 t231, .int .u64 t232] 24 (0, 0)) (by (with_reducible repeat (first | apply bN | apply bD | apply bA)); exact BK234.out) hb); have n4_ := Aside0.mk (below_step (by repeat (first | (with_reducible first | exact HB.out | apply lA | apply lN | apply lD | refine lS ?_ ‹_›) | exact HB.out)) hb); clear BK211; clear BK212; clear BK230; clear BK234; clear HB; have BK211 := n0_; have BK212 := n1_; have BK230 := n2_; have BK234 := n3_; have HB := n4_; clear n0_ n1_ n2_ n3_ n4_; (try clear hb); (try clear hb2); (try clear hk); (try clear hi)))
             go_meet
             case rel => exact ⟨_, (true), (by first | rfl | (simp; done) | (simp [*]; done)), H', ⟨by have := HJ7.out; have := HJ62.out; first | omega | exact Nat.le_refl _⟩, ⟨by (with_reducible repeat (first | apply bN | apply bD | apply bA)); exact BK211.out⟩, ⟨by (with_reducible repeat (first | apply bN | apply bD | apply bA)); exact BK212.out⟩, ⟨by (with_reducible repeat (first | apply bN | apply bD | apply bA)); exact BK230.out⟩, ⟨by (with_reducible repeat (first | apply bN | apply bD | apply bA)); exact BK234.out⟩, ⟨by repeat (first | (with_reducible first | exact HB.out | apply lA | apply lN | apply lD | refine lS ?_ ‹_›) | exact HB.out)⟩⟩
           ·
            replace c107 := Bool.eq_false_iff.mpr c107
            subst c107
            have H1 : (posternlaw14_TnumSets.j2 kj62 a2 t233 true a0_0 a0_1 a1_0 a1_1 t228 t229 t231 t232) = some r := by rw [if_neg (show ¬ (false = true) by decide)] at H; exact H
            clear H; have H := H1; clear H1; have H' := Aside0.mk H
            clear H; have hnb176 := NB211_212.out; have hnc176 := NB212_211.out; have hnb177 := NB211_230.out; have hnc177 := NB230_211.out; have hnb178 := NB211_234.out; have hnc178 := NB234_211.out; have hcz179_0 : w87.cell? ⟨gb211, 0, none⟩ = some (.int .u64 a0_0) := (blk_cell BK211.out 0).trans rfl; have hcz179_1 : w87.cell? ⟨gb211, 1, none⟩ = some (.int .u64 a0_1) := (blk_cell BK211.out 1).trans rfl; have hfz179_0 := blk_frozen BK211.out 0; have hfz179_1 := blk_frozen BK211.out 1; have hnb180 := NB212_230.out; have hnc180 := NB230_212.out; have hnb181 := NB212_234.out; have hnc181 := NB234_212.out; have hcz182_0 : w87.cell? ⟨gb212, 0, none⟩ = some (.int .u64 a1_0) := (blk_cell BK212.out 0).trans rfl; have hcz182_1 : w87.cell? ⟨gb212, 1, none⟩ = some (.int .u64 a1_1) := (blk_cell BK212.out 1).trans rfl; have hfz182_0 := blk_frozen BK212.out 0; have hfz182_1 := blk_frozen BK212.out 1
            go_wp2_with (first | ((with_reducible refine gate_callee (f := 28) rfl ?_); refine goesL_ (some 79) rfl rfl Try.func28 (by kernel_rfl) rfl #[.agg #[.int .u64 a0_0, .int .u64 a0_1], .agg #[.int .u64 a1_0, .int .u64 a1_1]] rfl (by (try simp only [List.map_toArray, List.map_cons, List.map_nil]); first | done | rfl | (simp only [List.length_drop, List.length_take]; rfl)) ?_; (with_reducible refine (tnum_In.calls a0_0 a0_1 a1_0 a1_1 t235 _ A92.out).mono ?_); rintro e w183 ⟨rfl, hb⟩; refine ⟨_, rfl, ?_⟩; have n0_ := Aside0.mk (blk_below (g := gb211) (o := .cells #[.int .u64 a0_0, .int .u64 a0_1] 24 (0, 0)) (by (with_reducible repeat (first | apply bN | apply bD | apply bA)); refine blk_far ?_ NB211_234.out _; (with_reducible repeat (first | apply bN | apply bD | apply bA)); refine blk_far ?_ NB211_234.out _; (with_reducible repeat (first | apply bN | apply bD | apply bA)); exact BK211.out) hb); have n1_ := Aside0.mk (blk_below (g := gb212) (o := .cells #[.int .u64 a1_0, .int .u64 a1_1] 24 (0, 0)) (by (with_reducible repeat (first | apply bN | apply bD | apply bA)); refine blk_far ?_ NB212_234.out _; (with_reducible repeat (first | apply bN | apply bD | apply bA)); refine blk_far ?_ NB212_234.out _; (with_reducible repeat (first | apply bN | apply bD | apply bA)); exact BK212.out) hb); have n2_ := Aside0.mk (blk_below (g := gb230) (o := .cells #[.int .u64 t228, .int .u64 t229] 24 (0, 0)) (by (with_reducible repeat (first | apply bN | apply bD | apply bA)); refine blk_far ?_ NB230_234.out _; (with_reducible repeat (first | apply bN | apply bD | apply bA)); refine blk_far ?_ NB230_234.out _; (with_reducible repeat (first | apply bN | apply bD | apply bA)); exact BK230.out) hb); have n3_ := Aside0.mk (blk_below (g := gb234) (o := .cells #[.int .u64 t231, .int .u64 t232] 24 (0, 0)) (by (with_reducible repeat (first | apply bN | apply bD | apply bA)); refine blk_put (cs := #[.int .u64 t231, .int .u64 0]) ?_ 1 _ rfl; (with_reducible repeat (first | apply bN | apply bD | apply bA)); refine blk_put (cs := #[.int .u64 0, .int .u64 0]) ?_ 0 _ rfl; (with_reducible repeat (first | apply bN | apply bD | apply bA)); exact BK234.out) hb); have n4_ := Aside0.mk (below_step (by repeat (first | (with_reducible first | exact HB.out | apply lA | apply lN | apply lD | refine lS ?_ ‹_›) | exact HB.out)) hb); clear BK211; clear BK212; clear BK230; clear BK234; clear HB; have BK211 := n0_; have BK212 := n1_; have BK230 := n2_; have BK234 := n3_; have HB := n4_; clear n0_ n1_ n2_ n3_ n4_; (try clear hb); (try clear hb2); (try clear hk); (try clear hi); have hcz184_0 : w183.cell? ⟨gb211, 0, none⟩ = some (.int .u64 a0_0) := (blk_cell BK211.out 0).trans rfl; have hcz184_1 : w183.cell? ⟨gb211, 1, none⟩ = some (.int .u64 a0_1) := (blk_cell BK211.out 1).trans rfl; have hfz184_0 := blk_frozen BK211.out 0; have hfz184_1 := blk_frozen BK211.out 1; have hnb185 := NB230_234.out; have hnc185 := NB234_230.out; have hcz186_0 : w183.cell? ⟨gb230, 0, none⟩ = some (.int .u64 t228) := (blk_cell BK230.out 0).trans rfl; have hcz186_1 : w183.cell? ⟨gb230, 1, none⟩ = some (.int .u64 t229) := (blk_cell BK230.out 1).trans rfl; have hfz186_0 := blk_frozen BK230.out 0; have hfz186_1 := blk_frozen BK230.out 1) | (go_at_call 28; (with_reducible refine (tnum_In.calls a0_0 a0_1 t228 t229 true _ A102.out).mono ?_); rintro e w187 ⟨rfl, hb⟩; have n0_ := Aside0.mk (blk_below (g := gb211) (o := .cells #[.int .u64 a0_0, .int .u64 a0_1] 24 (0, 0)) (by (with_reducible repeat (first | apply bN | apply bD | apply bA)); exact BK211.out) hb); have n1_ := Aside0.mk (blk_below (g := gb212) (o := .cells #[.int .u64 a1_0, .int .u64 a1_1] 24 (0, 0)) (by (with_reducible repeat (first | apply bN | apply bD | apply bA)); exact BK212.out) hb); have n2_ := Aside0.mk (blk_below (g := gb230) (o := .cells #[.int .u64 t228, .int .u64 t229] 24 (0, 0)) (by (with_reducible repeat (first | apply bN | apply bD | apply bA)); exact BK230.out) hb); have n3_ := Aside0.mk (blk_below (g := gb234) (o := .cells #[.int .u64 t231, .int .u64 t232] 24 (0, 0)) (by (with_reducible repeat (first | apply bN | apply bD | apply bA)); exact BK234.out) hb); have n4_ := Aside0.mk (below_step (by repeat (first | (with_reducible first | exact HB.out | apply lA | apply lN | apply lD | refine lS ?_ ‹_›) | exact HB.out)) hb); clear BK211; clear BK212; clear BK230; clear BK234; clear HB; have BK211 := n0_; have BK212 := n1_; have BK230 := n2_; have BK234 := n3_; have HB := n4_; clear n0_ n1_ n2_ n3_ n4_; (try clear hb); (try clear hb2); (try clear hk); (try clear hi); have hcz188_0 : w187.cell? ⟨gb212, 0, none⟩ = some (.int .u64 a1_0) := (blk_cell BK212.out 0).trans rfl; have hcz188_1 : w187.cell? ⟨gb212, 1, none⟩ = some (.int .u64 a1_1) := (blk_cell BK212.out 1).trans rfl; have hfz188_0 := blk_frozen BK212.out 0; have hfz188_1 := blk_frozen BK212.out 1; have hcz189_0 : w187.cell? ⟨gb230, 0, none⟩ = some (.int .u64 t228) := (blk_cell BK230.out 0).trans rfl; have hcz189_1 : w187.cell? ⟨gb230, 1, none⟩ = some (.int .u64 t229) := (blk_cell BK230.out 1).trans rfl; have hfz189_0 := blk_frozen BK230.out 0; have hfz189_1 := blk_frozen BK230.out 1) | (go_at_call 28; (with_reducible refine (tnum_In.calls a1_0 a1_1 t228 t229 true _ A104.out).mono ?_); rintro e w190 ⟨rfl, hb⟩; have n0_ := Aside0.mk (blk_below (g := gb211) (o := .cells #[.int .u64 a0_0, .int .u64 a0_1] 24 (0, 0)) (by (with_reducible repeat (first | apply bN | apply bD | apply bA)); exact BK211.out) hb); have n1_ := Aside0.mk (blk_below (g := gb212) (o := .cells #[.int .u64 a1_0, .int .u64 a1_1] 24 (0, 0)) (by (with_reducible repeat (first | apply bN | apply bD | apply bA)); exact BK212.out) hb); have n2_ := Aside0.mk (blk_below (g := gb230) (o := .cells #[.int .u64 t228, .int .u64 t229] 24 (0, 0)) (by (with_reducible repeat (first | apply bN | apply bD | apply bA)); exact BK230.out) hb); have n3_ := Aside0.mk (blk_below (g := gb234) (o := .cells #[.int .u64 t231, .int .u64 t232] 24 (0, 0)) (by (with_reducible repeat (first | apply bN | apply bD | apply bA)); exact BK234.out) hb); have n4_ := Aside0.mk (below_step (by repeat (first | (with_reducible first | exact HB.out | apply lA | apply lN | apply lD | refine lS ?_ ‹_›) | exact HB.out)) hb); clear BK211; clear BK212; clear BK230; clear BK234; clear HB; have BK211 := n0_; have BK212 := n1_; have BK230 := n2_; have BK234 := n3_; have HB := n4_; clear n0_ n1_ n2_ n3_ n4_; (try clear hb); (try clear hb2); (try clear hk); (try clear hi); have hcz191_0 : w190.cell? ⟨gb230, 0, none⟩ = some (.int .u64 t228) := (blk_cell BK230.out 0).trans rfl; have hcz191_1 : w190.cell? ⟨gb230, 1, none⟩ = some (.int .u64 t229) := (blk_cell BK230.out 1).trans rfl; have hfz191_0 := blk_frozen BK230.out 0; have hfz191_1 := blk_frozen BK230.out 1) | (go_at_call 18; (with_reducible refine (posternlaw14_good.calls t228 t229 false _ A106.out).mono ?_); rintro e w192 ⟨rfl, hb⟩; have n0_ := Aside0.mk (blk_below (g := gb211) (o := .cells #[.int .u64 a0_0, .int .u64 a0_1] 24 (0, 0)) (by (with_reducible repeat (first | apply bN | apply bD | apply bA)); exact BK211.out) hb); have n1_ := Aside0.mk (blk_below (g := gb212) (o := .cells #[.int .u64 a1_0, .int .u64 a1_1] 24 (0, 0)) (by (with_reducible repeat (first | apply bN | apply bD | apply bA)); exact BK212.out) hb); have n2_ := Aside0.mk (blk_below (g := gb230) (o := .cells #[.int .u64 t228, .int .u64 t229] 24 (0, 0)) (by (with_reducible repeat (first | apply bN | apply bD | apply bA)); exact BK230.out) hb); have n3_ := Aside0.mk (blk_below (g := gb234) (o := .cells #[.int .u64 t231, .int .u64 t232] 24 (0, 0)) (by (with_reducible repeat (first | apply bN | apply bD | apply bA)); exact BK234.out) hb); have n4_ := Aside0.mk (below_step (by repeat (first | (with_reducible first | exact HB.out | apply lA | apply lN | apply lD | refine lS ?_ ‹_›) | exact HB.out)) hb); clear BK211; clear BK212; clear BK230; clear BK234; clear HB; have BK211 := n0_; have BK212 := n1_; have BK230 := n2_; have BK234 := n3_; have HB := n4_; clear n0_ n1_ n2_ n3_ n4_; (try clear hb); (try clear hb2); (try clear hk); (try clear hi)))
            go_meet
            case rel => exact ⟨_, (true), (by first | rfl | (simp; done) | (simp [*]; done)), H', ⟨by have := HJ7.out; have := HJ62.out; first | omega | exact Nat.le_refl _⟩, ⟨by (with_reducible repeat (first | apply bN | apply bD | apply bA)); exact BK211.out⟩, ⟨by (with_reducible repeat (first | apply bN | apply bD | apply bA)); exact BK212.out⟩, ⟨by (with_reducible repeat (first | apply bN | apply bD | apply bA)); exact BK230.out⟩, ⟨by (with_reducible repeat (first | apply bN | apply bD | apply bA)); exact BK234.out⟩, ⟨by repeat (first | (with_reducible first | exact HB.out | apply lA | apply lN | apply lD | refine lS ?_ ‹_›) | exact HB.out)⟩⟩
          ·
           replace c105 := Bool.eq_false_iff.mpr c105
           subst c105
           have H1 : (posternlaw14_TnumSets.j2 kj62 a2 t233 true a0_0 a0_1 a1_0 a1_1 t228 t229 t231 t232) = some r := by rw [if_neg (show ¬ (false = true) by decide)] at H; exact H
           clear H; have H := H1; clear H1; have H' := Aside0.mk H
           clear H; have hnb193 := NB211_212.out; have hnc193 := NB212_211.out; have hnb194 := NB211_230.out; have hnc194 := NB230_211.out; have hnb195 := NB211_234.out; have hnc195 := NB234_211.out; have hcz196_0 : w87.cell? ⟨gb211, 0, none⟩ = some (.int .u64 a0_0) := (blk_cell BK211.out 0).trans rfl; have hcz196_1 : w87.cell? ⟨gb211, 1, none⟩ = some (.int .u64 a0_1) := (blk_cell BK211.out 1).trans rfl; have hfz196_0 := blk_frozen BK211.out 0; have hfz196_1 := blk_frozen BK211.out 1; have hnb197 := NB212_230.out; have hnc197 := NB230_212.out; have hnb198 := NB212_234.out; have hnc198 := NB234_212.out; have hcz199_0 : w87.cell? ⟨gb212, 0, none⟩ = some (.int .u64 a1_0) := (blk_cell BK212.out 0).trans rfl; have hcz199_1 : w87.cell? ⟨gb212, 1, none⟩ = some (.int .u64 a1_1) := (blk_cell BK212.out 1).trans rfl; have hfz199_0 := blk_frozen BK212.out 0; have hfz199_1 := blk_frozen BK212.out 1
           go_wp2_with (first | ((with_reducible refine gate_callee (f := 28) rfl ?_); refine goesL_ (some 79) rfl rfl Try.func28 (by kernel_rfl) rfl #[.agg #[.int .u64 a0_0, .int .u64 a0_1], .agg #[.int .u64 a1_0, .int .u64 a1_1]] rfl (by (try simp only [List.map_toArray, List.map_cons, List.map_nil]); first | done | rfl | (simp only [List.length_drop, List.length_take]; rfl)) ?_; (with_reducible refine (tnum_In.calls a0_0 a0_1 a1_0 a1_1 t235 _ A92.out).mono ?_); rintro e w200 ⟨rfl, hb⟩; refine ⟨_, rfl, ?_⟩; have n0_ := Aside0.mk (blk_below (g := gb211) (o := .cells #[.int .u64 a0_0, .int .u64 a0_1] 24 (0, 0)) (by (with_reducible repeat (first | apply bN | apply bD | apply bA)); refine blk_far ?_ NB211_234.out _; (with_reducible repeat (first | apply bN | apply bD | apply bA)); refine blk_far ?_ NB211_234.out _; (with_reducible repeat (first | apply bN | apply bD | apply bA)); exact BK211.out) hb); have n1_ := Aside0.mk (blk_below (g := gb212) (o := .cells #[.int .u64 a1_0, .int .u64 a1_1] 24 (0, 0)) (by (with_reducible repeat (first | apply bN | apply bD | apply bA)); refine blk_far ?_ NB212_234.out _; (with_reducible repeat (first | apply bN | apply bD | apply bA)); refine blk_far ?_ NB212_234.out _; (with_reducible repeat (first | apply bN | apply bD | apply bA)); exact BK212.out) hb); have n2_ := Aside0.mk (blk_below (g := gb230) (o := .cells #[.int .u64 t228, .int .u64 t229] 24 (0, 0)) (by (with_reducible repeat (first | apply bN | apply bD | apply bA)); refine blk_far ?_ NB230_234.out _; (with_reducible repeat (first | apply bN | apply bD | apply bA)); refine blk_far ?_ NB230_234.out _; (with_reducible repeat (first | apply bN | apply bD | apply bA)); exact BK230.out) hb); have n3_ := Aside0.mk (blk_below (g := gb234) (o := .cells #[.int .u64 t231, .int .u64 t232] 24 (0, 0)) (by (with_reducible repeat (first | apply bN | apply bD | apply bA)); refine blk_put (cs := #[.int .u64 t231, .int .u64 0]) ?_ 1 _ rfl; (with_reducible repeat (first | apply bN | apply bD | apply bA)); refine blk_put (cs := #[.int .u64 0, .int .u64 0]) ?_ 0 _ rfl; (with_reducible repeat (first | apply bN | apply bD | apply bA)); exact BK234.out) hb); have n4_ := Aside0.mk (below_step (by repeat (first | (with_reducible first | exact HB.out | apply lA | apply lN | apply lD | refine lS ?_ ‹_›) | exact HB.out)) hb); clear BK211; clear BK212; clear BK230; clear BK234; clear HB; have BK211 := n0_; have BK212 := n1_; have BK230 := n2_; have BK234 := n3_; have HB := n4_; clear n0_ n1_ n2_ n3_ n4_; (try clear hb); (try clear hb2); (try clear hk); (try clear hi); have hcz201_0 : w200.cell? ⟨gb211, 0, none⟩ = some (.int .u64 a0_0) := (blk_cell BK211.out 0).trans rfl; have hcz201_1 : w200.cell? ⟨gb211, 1, none⟩ = some (.int .u64 a0_1) := (blk_cell BK211.out 1).trans rfl; have hfz201_0 := blk_frozen BK211.out 0; have hfz201_1 := blk_frozen BK211.out 1; have hnb202 := NB230_234.out; have hnc202 := NB234_230.out; have hcz203_0 : w200.cell? ⟨gb230, 0, none⟩ = some (.int .u64 t228) := (blk_cell BK230.out 0).trans rfl; have hcz203_1 : w200.cell? ⟨gb230, 1, none⟩ = some (.int .u64 t229) := (blk_cell BK230.out 1).trans rfl; have hfz203_0 := blk_frozen BK230.out 0; have hfz203_1 := blk_frozen BK230.out 1) | (go_at_call 28; (with_reducible refine (tnum_In.calls a0_0 a0_1 t228 t229 true _ A102.out).mono ?_); rintro e w204 ⟨rfl, hb⟩; have n0_ := Aside0.mk (blk_below (g := gb211) (o := .cells #[.int .u64 a0_0, .int .u64 a0_1] 24 (0, 0)) (by (with_reducible repeat (first | apply bN | apply bD | apply bA)); exact BK211.out) hb); have n1_ := Aside0.mk (blk_below (g := gb212) (o := .cells #[.int .u64 a1_0, .int .u64 a1_1] 24 (0, 0)) (by (with_reducible repeat (first | apply bN | apply bD | apply bA)); exact BK212.out) hb); have n2_ := Aside0.mk (blk_below (g := gb230) (o := .cells #[.int .u64 t228, .int .u64 t229] 24 (0, 0)) (by (with_reducible repeat (first | apply bN | apply bD | apply bA)); exact BK230.out) hb); have n3_ := Aside0.mk (blk_below (g := gb234) (o := .cells #[.int .u64 t231, .int .u64 t232] 24 (0, 0)) (by (with_reducible repeat (first | apply bN | apply bD | apply bA)); exact BK234.out) hb); have n4_ := Aside0.mk (below_step (by repeat (first | (with_reducible first | exact HB.out | apply lA | apply lN | apply lD | refine lS ?_ ‹_›) | exact HB.out)) hb); clear BK211; clear BK212; clear BK230; clear BK234; clear HB; have BK211 := n0_; have BK212 := n1_; have BK230 := n2_; have BK234 := n3_; have HB := n4_; clear n0_ n1_ n2_ n3_ n4_; (try clear hb); (try clear hb2); (try clear hk); (try clear hi); have hcz205_0 : w204.cell? ⟨gb212, 0, none⟩ = some (.int .u64 a1_0) := (blk_cell BK212.out 0).trans rfl; have hcz205_1 : w204.cell? ⟨gb212, 1, none⟩ = some (.int .u64 a1_1) := (blk_cell BK212.out 1).trans rfl; have hfz205_0 := blk_frozen BK212.out 0; have hfz205_1 := blk_frozen BK212.out 1; have hcz206_0 : w204.cell? ⟨gb230, 0, none⟩ = some (.int .u64 t228) := (blk_cell BK230.out 0).trans rfl; have hcz206_1 : w204.cell? ⟨gb230, 1, none⟩ = some (.int .u64 t229) := (blk_cell BK230.out 1).trans rfl; have hfz206_0 := blk_frozen BK230.out 0; have hfz206_1 := blk_frozen BK230.out 1) | (go_at_call 28; (with_reducible refine (tnum_In.calls a1_0 a1_1 t228 t229 false _ A104.out).mono ?_); rintro e w207 ⟨rfl, hb⟩; have n0_ := Aside0.mk (blk_below (g := gb211) (o := .cells #[.int .u64 a0_0, .int .u64 a0_1] 24 (0, 0)) (by (with_reducible repeat (first | apply bN | apply bD | apply bA)); exact BK211.out) hb); have n1_ := Aside0.mk (blk_below (g := gb212) (o := .cells #[.int .u64 a1_0, .int .u64 a1_1] 24 (0, 0)) (by (with_reducible repeat (first | apply bN | apply bD | apply bA)); exact BK212.out) hb); have n2_ := Aside0.mk (blk_below (g := gb230) (o := .cells #[.int .u64 t228, .int .u64 t229] 24 (0, 0)) (by (with_reducible repeat (first | apply bN | apply bD | apply bA)); exact BK230.out) hb); have n3_ := Aside0.mk (blk_below (g := gb234) (o := .cells #[.int .u64 t231, .int .u64 t232] 24 (0, 0)) (by (with_reducible repeat (first | apply bN | apply bD | apply bA)); exact BK234.out) hb); have n4_ := Aside0.mk (below_step (by repeat (first | (with_reducible first | exact HB.out | apply lA | apply lN | apply lD | refine lS ?_ ‹_›) | exact HB.out)) hb); clear BK211; clear BK212; clear BK230; clear BK234; clear HB; have BK211 := n0_; have BK212 := n1_; have BK230 := n2_; have BK234 := n3_; have HB := n4_; clear n0_ n1_ n2_ n3_ n4_; (try clear hb); (try clear hb2); (try clear hk); (try clear hi)))
           go_meet
           case rel => exact ⟨_, (true), (by first | rfl | (simp; done) | (simp [*]; done)), H', ⟨by have := HJ7.out; have := HJ62.out; first | omega | exact Nat.le_refl _⟩, ⟨by (with_reducible repeat (first | apply bN | apply bD | apply bA)); exact BK211.out⟩, ⟨by (with_reducible repeat (first | apply bN | apply bD | apply bA)); exact BK212.out⟩, ⟨by (with_reducible repeat (first | apply bN | apply bD | apply bA)); exact BK230.out⟩, ⟨by (with_reducible repeat (first | apply bN | apply bD | apply bA)); exact BK234.out⟩, ⟨by repeat (first | (with_reducible first | exact HB.out | apply lA | apply lN | apply lD | refine lS ?_ ‹_›) | exact HB.out)⟩⟩
         ·
          replace c103 := Bool.eq_false_iff.mpr c103
          subst c103
          have H1 : (posternlaw14_TnumSets.j2 kj62 a2 t233 true a0_0 a0_1 a1_0 a1_1 t228 t229 t231 t232) = some r := by rw [if_neg (show ¬ (false = true) by decide)] at H; exact H
          clear H; have H := H1; clear H1; have H' := Aside0.mk H
          clear H; have hnb208 := NB211_212.out; have hnc208 := NB212_211.out; have hnb209 := NB211_230.out; have hnc209 := NB230_211.out; have hnb210 := NB211_234.out; have hnc210 := NB234_211.out; have hcz211_0 : w87.cell? ⟨gb211, 0, none⟩ = some (.int .u64 a0_0) := (blk_cell BK211.out 0).trans rfl; have hcz211_1 : w87.cell? ⟨gb211, 1, none⟩ = some (.int .u64 a0_1) := (blk_cell BK211.out 1).trans rfl; have hfz211_0 := blk_frozen BK211.out 0; have hfz211_1 := blk_frozen BK211.out 1; have hnb212 := NB212_230.out; have hnc212 := NB230_212.out; have hnb213 := NB212_234.out; have hnc213 := NB234_212.out; have hcz214_0 : w87.cell? ⟨gb212, 0, none⟩ = some (.int .u64 a1_0) := (blk_cell BK212.out 0).trans rfl; have hcz214_1 : w87.cell? ⟨gb212, 1, none⟩ = some (.int .u64 a1_1) := (blk_cell BK212.out 1).trans rfl; have hfz214_0 := blk_frozen BK212.out 0; have hfz214_1 := blk_frozen BK212.out 1
          go_wp2_with (first | ((with_reducible refine gate_callee (f := 28) rfl ?_); refine goesL_ (some 79) rfl rfl Try.func28 (by kernel_rfl) rfl #[.agg #[.int .u64 a0_0, .int .u64 a0_1], .agg #[.int .u64 a1_0, .int .u64 a1_1]] rfl (by (try simp only [List.map_toArray, List.map_cons, List.map_nil]); first | done | rfl | (simp only [List.length_drop, List.length_take]; rfl)) ?_; (with_reducible refine (tnum_In.calls a0_0 a0_1 a1_0 a1_1 t235 _ A92.out).mono ?_); rintro e w215 ⟨rfl, hb⟩; refine ⟨_, rfl, ?_⟩; have n0_ := Aside0.mk (blk_below (g := gb211) (o := .cells #[.int .u64 a0_0, .int .u64 a0_1] 24 (0, 0)) (by (with_reducible repeat (first | apply bN | apply bD | apply bA)); refine blk_far ?_ NB211_234.out _; (with_reducible repeat (first | apply bN | apply bD | apply bA)); refine blk_far ?_ NB211_234.out _; (with_reducible repeat (first | apply bN | apply bD | apply bA)); exact BK211.out) hb); have n1_ := Aside0.mk (blk_below (g := gb212) (o := .cells #[.int .u64 a1_0, .int .u64 a1_1] 24 (0, 0)) (by (with_reducible repeat (first | apply bN | apply bD | apply bA)); refine blk_far ?_ NB212_234.out _; (with_reducible repeat (first | apply bN | apply bD | apply bA)); refine blk_far ?_ NB212_234.out _; (with_reducible repeat (first | apply bN | apply bD | apply bA)); exact BK212.out) hb); have n2_ := Aside0.mk (blk_below (g := gb230) (o := .cells #[.int .u64 t228, .int .u64 t229] 24 (0, 0)) (by (with_reducible repeat (first | apply bN | apply bD | apply bA)); refine blk_far ?_ NB230_234.out _; (with_reducible repeat (first | apply bN | apply bD | apply bA)); refine blk_far ?_ NB230_234.out _; (with_reducible repeat (first | apply bN | apply bD | apply bA)); exact BK230.out) hb); have n3_ := Aside0.mk (blk_below (g := gb234) (o := .cells #[.int .u64 t231, .int .u64 t232] 24 (0, 0)) (by (with_reducible repeat (first | apply bN | apply bD | apply bA)); refine blk_put (cs := #[.int .u64 t231, .int .u64 0]) ?_ 1 _ rfl; (with_reducible repeat (first | apply bN | apply bD | apply bA)); refine blk_put (cs := #[.int .u64 0, .int .u64 0]) ?_ 0 _ rfl; (with_reducible repeat (first | apply bN | apply bD | apply bA)); exact BK234.out) hb); have n4_ := Aside0.mk (below_step (by repeat (first | (with_reducible first | exact HB.out | apply lA | apply lN | apply lD | refine lS ?_ ‹_›) | exact HB.out)) hb); clear BK211; clear BK212; clear BK230; clear BK234; clear HB; have BK211 := n0_; have BK212 := n1_; have BK230 := n2_; have BK234 := n3_; have HB := n4_; clear n0_ n1_ n2_ n3_ n4_; (try clear hb); (try clear hb2); (try clear hk); (try clear hi); have hcz216_0 : w215.cell? ⟨gb211, 0, none⟩ = some (.int .u64 a0_0) := (blk_cell BK211.out 0).trans rfl; have hcz216_1 : w215.cell? ⟨gb211, 1, none⟩ = some (.int .u64 a0_1) := (blk_cell BK211.out 1).trans rfl; have hfz216_0 := blk_frozen BK211.out 0; have hfz216_1 := blk_frozen BK211.out 1; have hnb217 := NB230_234.out; have hnc217 := NB234_230.out; have hcz218_0 : w215.cell? ⟨gb230, 0, none⟩ = some (.int .u64 t228) := (blk_cell BK230.out 0).trans rfl; have hcz218_1 : w215.cell? ⟨gb230, 1, none⟩ = some (.int .u64 t229) := (blk_cell BK230.out 1).trans rfl; have hfz218_0 := blk_frozen BK230.out 0; have hfz218_1 := blk_frozen BK230.out 1) | (go_at_call 28; (with_reducible refine (tnum_In.calls a0_0 a0_1 t228 t229 false _ A102.out).mono ?_); rintro e w219 ⟨rfl, hb⟩; have n0_ := Aside0.mk (blk_below (g := gb211) (o := .cells #[.int .u64 a0_0, .int .u64 a0_1] 24 (0, 0)) (by (with_reducible repeat (first | apply bN | apply bD | apply bA)); exact BK211.out) hb); have n1_ := Aside0.mk (blk_below (g := gb212) (o := .cells #[.int .u64 a1_0, .int .u64 a1_1] 24 (0, 0)) (by (with_reducible repeat (first | apply bN | apply bD | apply bA)); exact BK212.out) hb); have n2_ := Aside0.mk (blk_below (g := gb230) (o := .cells #[.int .u64 t228, .int .u64 t229] 24 (0, 0)) (by (with_reducible repeat (first | apply bN | apply bD | apply bA)); exact BK230.out) hb); have n3_ := Aside0.mk (blk_below (g := gb234) (o := .cells #[.int .u64 t231, .int .u64 t232] 24 (0, 0)) (by (with_reducible repeat (first | apply bN | apply bD | apply bA)); exact BK234.out) hb); have n4_ := Aside0.mk (below_step (by repeat (first | (with_reducible first | exact HB.out | apply lA | apply lN | apply lD | refine lS ?_ ‹_›) | exact HB.out)) hb); clear BK211; clear BK212; clear BK230; clear BK234; clear HB; have BK211 := n0_; have BK212 := n1_; have BK230 := n2_; have BK234 := n3_; have HB := n4_; clear n0_ n1_ n2_ n3_ n4_; (try clear hb); (try clear hb2); (try clear hk); (try clear hi)))
          go_meet
          case rel => exact ⟨_, (true), (by first | rfl | (simp; done) | (simp [*]; done)), H', ⟨by have := HJ7.out; have := HJ62.out; first | omega | exact Nat.le_refl _⟩, ⟨by (with_reducible repeat (first | apply bN | apply bD | apply bA)); exact BK211.out⟩, ⟨by (with_reducible repeat (first | apply bN | apply bD | apply bA)); exact BK212.out⟩, ⟨by (with_reducible repeat (first | apply bN | apply bD | apply bA)); exact BK230.out⟩, ⟨by (with_reducible repeat (first | apply bN | apply bD | apply bA)); exact BK234.out⟩, ⟨by repeat (first | (with_reducible first | exact HB.out | apply lA | apply lN | apply lD | refine lS ?_ ‹_›) | exact HB.out)⟩⟩
       case rest => as_aux_lemma =>
        clear HC75; (try clear c1); (try clear c2); (try clear p2); (try clear c3); (try clear c4); (try clear c5); (try clear c6); (try clear c7); (try clear c8); (try clear c9); (try clear c10); (try clear c11); (try clear c12); (try clear c13); (try clear c14); (try clear c15); (try clear c16); (try clear c17); (try clear c18); (try clear c19); (try clear c20); (try clear c21); (try clear c22); (try clear c25); (try clear c26); (try clear c27); (try clear c28); (try clear c36); (try clear c47); (try clear c54); (try clear c59); (try clear c62); (try clear c64); (try clear c64b0); (try clear c64b1); (try clear c66); (try clear c70); (try clear c76); (try clear c81); (try clear c82); (try clear c88); (try clear c89); (try clear c90); (try clear c93); (try clear c93b0); (try clear c93b1); (try clear c93b2); (try clear c94); (try clear c95); (try clear c96); (try clear c98); (try clear c99); (try clear c103); (try clear c105); (try clear c107); (try clear c109); (try clear c111); (try clear c113); (try clear c114); (try clear c115); (try clear c117); (try clear c118); (try clear c122); (try clear c136); (try clear c137); (try clear c138); (try clear c140); (try clear c141); (try clear c145); (try clear c157); (try clear c158); (try clear c159); (try clear c161); (try clear c162); (try clear c166); (try clear c176); (try clear c177); (try clear c178); (try clear c180); (try clear c181); (try clear c185); (try clear c193); (try clear c194); (try clear c195); (try clear c197); (try clear c198)
        (try clear c202); (try clear c208)
        (try clear c209); (try clear c210)
        (try clear c212); (try clear c213)
        (try clear c217); (try clear hcz100_0)
        (try clear hcz100_1); (try clear hcz116_0)
        (try clear hcz116_1); (try clear hcz119_0)
        (try clear hcz119_1); (try clear hcz121_0)
        (try clear hcz121_1); (try clear hcz123_0)
        (try clear hcz123_1); (try clear hcz125_0)
        (try clear hcz125_1); (try clear hcz126_0)
        (try clear hcz126_1); (try clear hcz128_0)
        (try clear hcz128_1); (try clear hcz130_0)
        (try clear hcz130_1); (try clear hcz132_0)
        (try clear hcz132_1); (try clear hcz134_0)
        (try clear hcz134_1); (try clear hcz139_0)
        (try clear hcz139_1); (try clear hcz142_0)
        (try clear hcz142_1); (try clear hcz144_0)
        (try clear hcz144_1); (try clear hcz146_0)
        (try clear hcz146_1); (try clear hcz148_0)
        (try clear hcz148_1); (try clear hcz149_0)
        (try clear hcz149_1); (try clear hcz151_0)
        (try clear hcz151_1); (try clear hcz153_0)
        (try clear hcz153_1); (try clear hcz155_0)
        (try clear hcz155_1); (try clear hcz160_0)
        (try clear hcz160_1); (try clear hcz163_0)
        (try clear hcz163_1); (try clear hcz165_0)
        (try clear hcz165_1); (try clear hcz167_0)
        (try clear hcz167_1); (try clear hcz169_0)
        (try clear hcz169_1); (try clear hcz170_0)
        (try clear hcz170_1); (try clear hcz172_0)
        (try clear hcz172_1); (try clear hcz174_0)
        (try clear hcz174_1); (try clear hcz179_0)
        (try clear hcz179_1); (try clear hcz182_0)
        (try clear hcz182_1); (try clear hcz184_0)
        (try clear hcz184_1); (try clear hcz186_0)
        (try clear hcz186_1); (try clear hcz188_0)
        (try clear hcz188_1); (try clear hcz189_0)
        (try clear hcz189_1); (try clear hcz191_0)
        (try clear hcz191_1); (try clear hcz196_0)
        (try clear hcz196_1); (try clear hcz199_0)
        (try clear hcz199_1); (try clear hcz201_0)
        (try clear hcz201_1); (try clear hcz203_0)
        (try clear hcz203_1); (try clear hcz205_0)
        (try clear hcz205_1); (try clear hcz206_0)
        (try clear hcz206_1); (try clear hcz211_0)
        (try clear hcz211_1); (try clear hcz214_0)
        (try clear hcz214_1); (try clear hcz216_0)
        (try clear hcz216_1); (try clear hcz218_0)
        (try clear hcz218_1); (try clear hcz27_0)
        (try clear hcz27_1); (try clear hcz37_0)
        (try clear hcz37_1); (try clear hcz45_0)
        (try clear hcz45_1); (try clear hcz48_0)
        (try clear hcz48_1); (try clear hcz55_0)
        (try clear hcz55_1); (try clear hcz60_0)
        (try clear hcz60_1); (try clear hcz67_0)
        (try clear hcz67_1); (try clear hcz68_0)
        (try clear hcz68_1); (try clear hcz71_0)
        (try clear hcz71_1); (try clear hcz72_0)
        (try clear hcz72_1); (try clear hcz77_0)
        (try clear hcz77_1); (try clear hcz78_0)
        (try clear hcz78_1); (try clear hcz83_0)
        (try clear hcz83_1); (try clear hcz84_0)
        (try clear hcz84_1); (try clear hcz85_0)
        (try clear hcz85_1); (try clear hcz91_0)
        (try clear hcz91_1); (try clear hcz97_0)
        (try clear hcz97_1); (try clear hfz100_0)
        (try clear hfz100_1); (try clear hfz116_0)
        (try clear hfz116_1); (try clear hfz119_0)
        (try clear hfz119_1); (try clear hfz121_0)
        (try clear hfz121_1); (try clear hfz123_0)
        (try clear hfz123_1); (try clear hfz125_0)
        (try clear hfz125_1); (try clear hfz126_0)
        (try clear hfz126_1); (try clear hfz128_0)
        (try clear hfz128_1); (try clear hfz130_0)
        (try clear hfz130_1); (try clear hfz132_0)
        (try clear hfz132_1); (try clear hfz134_0)
        (try clear hfz134_1); (try clear hfz139_0)
        (try clear hfz139_1); (try clear hfz142_0)
        (try clear hfz142_1); (try clear hfz144_0)
        (try clear hfz144_1); (try clear hfz146_0)
        (try clear hfz146_1); (try clear hfz148_0)
        (try clear hfz148_1); (try clear hfz149_0)
        (try clear hfz149_1); (try clear hfz151_0)
        (try clear hfz151_1); (try clear hfz153_0)
        (try clear hfz153_1); (try clear hfz155_0)
        (try clear hfz155_1); (try clear hfz160_0)
        (try clear hfz160_1); (try clear hfz163_0)
        (try clear hfz163_1); (try clear hfz165_0)
        (try clear hfz165_1); (try clear hfz167_0)
        (try clear hfz167_1); (try clear hfz169_0)
        (try clear hfz169_1); (try clear hfz170_0)
        (try clear hfz170_1); (try clear hfz172_0)
        (try clear hfz172_1); (try clear hfz174_0)
        (try clear hfz174_1); (try clear hfz179_0)
        (try clear hfz179_1); (try clear hfz182_0)
        (try clear hfz182_1); (try clear hfz184_0)
        (try clear hfz184_1); (try clear hfz186_0)
        (try clear hfz186_1); (try clear hfz188_0)
        (try clear hfz188_1); (try clear hfz189_0)
        (try clear hfz189_1); (try clear hfz191_0)
        (try clear hfz191_1); (try clear hfz196_0)
        (try clear hfz196_1); (try clear hfz199_0)
        (try clear hfz199_1); (try clear hfz201_0)
        (try clear hfz201_1); (try clear hfz203_0)
        (try clear hfz203_1); (try clear hfz205_0)
        (try clear hfz205_1); (try clear hfz206_0)
        (try clear hfz206_1); (try clear hfz211_0)
        (try clear hfz211_1); (try clear hfz214_0)
        (try clear hfz214_1); (try clear hfz216_0)
        (try clear hfz216_1); (try clear hfz218_0)
        (try clear hfz218_1); (try clear hfz27_0)
        (try clear hfz27_1); (try clear hfz37_0)
        (try clear hfz37_1); (try clear hfz45_0)
        (try clear hfz45_1); (try clear hfz48_0)
        (try clear hfz48_1); (try clear hfz55_0)
        (try clear hfz55_1); (try clear hfz60_0)
        (try clear hfz60_1); (try clear hfz67_0)
        (try clear hfz67_1); (try clear hfz68_0)
        (try clear hfz68_1); (try clear hfz71_0)
        (try clear hfz71_1); (try clear hfz72_0)
        (try clear hfz72_1); (try clear hfz77_0)
        (try clear hfz77_1); (try clear hfz78_0)
        (try clear hfz78_1); (try clear hfz83_0)
        (try clear hfz83_1); (try clear hfz84_0)
        (try clear hfz84_1); (try clear hfz85_0)
        (try clear hfz85_1); (try clear hfz91_0)
        (try clear hfz91_1); (try clear hfz97_0)
        (try clear hfz97_1); (try clear p2)
        obtain ⟨kq, x115_74, rfl, HA, HJ74, BK211, BK212, BK230, BK234, HB⟩ := hcut
        cases kq with
        | zero => exact absurd HA.out (by simp [posternlaw14_TnumSets.j2])
        | succ kj74 =>
         have H := HA.out
         clear HA
         simp only [posternlaw14_TnumSets.j2] at H
         by_cases c220 : x115_74 = true
         ·
          subst c220
          have H1 : (some false) = some r := by rw [if_pos rfl] at H; exact H
          clear H; have H := H1; clear H1
          exact absurd (H.trans (congrArg some hr_.out)) (by simp)
         ·
          replace c220 := Bool.eq_false_iff.mpr c220
          subst c220
          have H1 : ((posternref14_Member.f a0_0 a0_1 0).bind fun t242 => ((posternref14_Member.f a0_0 a0_1 18446744073709551615).bind fun t243 => ((posternref14_Member.f a1_0 a1_1 0).bind fun t244 => ((posternref14_Member.f a1_0 a1_1 18446744073709551615).bind fun t245 => ((posternref14_Best.f kj74 (([t242, t243, t244, t245] : List Int))).bind fun bt249 => (if (!(t228 == bt249.1) || (!(t229 == bt249.2))) = true then (some false) else ((posternref14_Member.f a0_0 a0_1 0).bind fun t251 => ((posternref14_Member.f a1_0 a1_1 0).bind fun t252 => (if (t233 != ((Go.bits .andNot .u64 (Go.bits .andNot .u64 (Go.bits .xor .u64 t251 t252) a0_1) a1_1) == 0)) = true then (posternlaw14_TnumSets.j3 kj74 a2 t233 true a0_0 a0_1 a1_0 a1_1 t231 t232) else (if t233 = true then (posternlaw14_TnumSets.j3 kj74 a2 t233 false a0_0 a0_1 a1_0 a1_1 t231 t232) else (posternlaw14_TnumSets.j3 kj74 a2 t233 (!(t231 == 0) || (!(t232 == 0))) a0_0 a0_1 a1_0 a1_1 t231 t232))))))))))) = some r := by rw [if_neg (show ¬ (false = true) by decide)] at H; exact H
          clear H; have H := H1; clear H1; replace H := Option.bind_eq_some_iff.mp H; obtain ⟨t242, A2210, H⟩ := H
          replace H : ((posternref14_Member.f a0_0 a0_1 18446744073709551615).bind fun t243 => ((posternref14_Member.f a1_0 a1_1 0).bind fun t244 => ((posternref14_Member.f a1_0 a1_1 18446744073709551615).bind fun t245 => ((posternref14_Best.f kj74 (([t242, t243, t244, t245] : List Int))).bind fun bt249 => (if (!(t228 == bt249.1) || (!(t229 == bt249.2))) = true then (some false) else ((posternref14_Member.f a0_0 a0_1 0).bind fun t251 => ((posternref14_Member.f a1_0 a1_1 0).bind fun t252 => (if (t233 != ((Go.bits .andNot .u64 (Go.bits .andNot .u64 (Go.bits .xor .u64 t251 t252) a0_1) a1_1) == 0)) = true then (posternlaw14_TnumSets.j3 kj74 a2 t233 true a0_0 a0_1 a1_0 a1_1 t231 t232) else (if t233 = true then (posternlaw14_TnumSets.j3 kj74 a2 t233 false a0_0 a0_1 a1_0 a1_1 t231 t232) else (posternlaw14_TnumSets.j3 kj74 a2 t233 (!(t231 == 0) || (!(t232 == 0))) a0_0 a0_1 a1_0 a1_1 t231 t232)))))))))) = some r := H
          have A221 := Aside0.mk A2210; clear A2210; replace H := Option.bind_eq_some_iff.mp H; obtain ⟨t243, A2220, H⟩ := H
          replace H : ((posternref14_Member.f a1_0 a1_1 0).bind fun t244 => ((posternref14_Member.f a1_0 a1_1 18446744073709551615).bind fun t245 => ((posternref14_Best.f kj74 (([t242, t243, t244, t245] : List Int))).bind fun bt249 => (if (!(t228 == bt249.1) || (!(t229 == bt249.2))) = true then (some false) else ((posternref14_Member.f a0_0 a0_1 0).bind fun t251 => ((posternref14_Member.f a1_0 a1_1 0).bind fun t252 => (if (t233 != ((Go.bits .andNot .u64 (Go.bits .andNot .u64 (Go.bits .xor .u64 t251 t252) a0_1) a1_1) == 0)) = true then (posternlaw14_TnumSets.j3 kj74 a2 t233 true a0_0 a0_1 a1_0 a1_1 t231 t232) else (if t233 = true then (posternlaw14_TnumSets.j3 kj74 a2 t233 false a0_0 a0_1 a1_0 a1_1 t231 t232) else (posternlaw14_TnumSets.j3 kj74 a2 t233 (!(t231 == 0) || (!(t232 == 0))) a0_0 a0_1 a1_0 a1_1 t231 t232))))))))) = some r := H
          have A222 := Aside0.mk A2220; clear A2220; replace H := Option.bind_eq_some_iff.mp H; obtain ⟨t244, A2230, H⟩ := H
          replace H : ((posternref14_Member.f a1_0 a1_1 18446744073709551615).bind fun t245 => ((posternref14_Best.f kj74 (([t242, t243, t244, t245] : List Int))).bind fun bt249 => (if (!(t228 == bt249.1) || (!(t229 == bt249.2))) = true then (some false) else ((posternref14_Member.f a0_0 a0_1 0).bind fun t251 => ((posternref14_Member.f a1_0 a1_1 0).bind fun t252 => (if (t233 != ((Go.bits .andNot .u64 (Go.bits .andNot .u64 (Go.bits .xor .u64 t251 t252) a0_1) a1_1) == 0)) = true then (posternlaw14_TnumSets.j3 kj74 a2 t233 true a0_0 a0_1 a1_0 a1_1 t231 t232) else (if t233 = true then (posternlaw14_TnumSets.j3 kj74 a2 t233 false a0_0 a0_1 a1_0 a1_1 t231 t232) else (posternlaw14_TnumSets.j3 kj74 a2 t233 (!(t231 == 0) || (!(t232 == 0))) a0_0 a0_1 a1_0 a1_1 t231 t232)))))))) = some r := H
          have A223 := Aside0.mk A2230; clear A2230; replace H := Option.bind_eq_some_iff.mp H; obtain ⟨t245, A2240, H⟩ := H
          replace H : ((posternref14_Best.f kj74 (([t242, t243, t244, t245] : List Int))).bind fun bt249 => (if (!(t228 == bt249.1) || (!(t229 == bt249.2))) = true then (some false) else ((posternref14_Member.f a0_0 a0_1 0).bind fun t251 => ((posternref14_Member.f a1_0 a1_1 0).bind fun t252 => (if (t233 != ((Go.bits .andNot .u64 (Go.bits .andNot .u64 (Go.bits .xor .u64 t251 t252) a0_1) a1_1) == 0)) = true then (posternlaw14_TnumSets.j3 kj74 a2 t233 true a0_0 a0_1 a1_0 a1_1 t231 t232) else (if t233 = true then (posternlaw14_TnumSets.j3 kj74 a2 t233 false a0_0 a0_1 a1_0 a1_1 t231 t232) else (posternlaw14_TnumSets.j3 kj74 a2 t233 (!(t231 == 0) || (!(t232 == 0))) a0_0 a0_1 a1_0 a1_1 t231 t232))))))) = some r := H
          have A224 := Aside0.mk A2240; clear A2240
          obtain ⟨y246, hy246⟩ : ∃ y_ : List Int, y_ = (([t242, t243, t244, t245] : List Int)) := ⟨_, rfl⟩
          replace H : ((posternref14_Best.f kj74 y246).bind fun bt249 => (if (!(t228 == bt249.1) || (!(t229 == bt249.2))) = true then (some false) else ((posternref14_Member.f a0_0 a0_1 0).bind fun t251 => ((posternref14_Member.f a1_0 a1_1 0).bind fun t252 => (if (t233 != ((Go.bits .andNot .u64 (Go.bits .andNot .u64 (Go.bits .xor .u64 t251 t252) a0_1) a1_1) == 0)) = true then (posternlaw14_TnumSets.j3 kj74 a2 t233 true a0_0 a0_1 a1_0 a1_1 t231 t232) else (if t233 = true then (posternlaw14_TnumSets.j3 kj74 a2 t233 false a0_0 a0_1 a1_0 a1_1 t231 t232) else (posternlaw14_TnumSets.j3 kj74 a2 t233 (!(t231 == 0) || (!(t232 == 0))) a0_0 a0_1 a1_0 a1_1 t231 t232))))))) = some r := by first | (rw [hy246]; with_reducible exact H) | (have H2_ := (Option.bind_some _ _).symm.trans H; rw [hy246]; with_reducible exact H2_) | (have H2_ := (Option.bind_some _ _).symm.trans H; with_reducible exact H2_) | with_reducible exact H | (rw [hy246]; exact H) | exact H
          have Ny246 := Aside0.mk hy246
          clear hy246; replace H := Option.bind_eq_some_iff.mp H; obtain ⟨⟨t249, t250⟩, A2250, H⟩ := H
          replace H : (if (!(t228 == t249) || (!(t229 == t250))) = true then (some false) else ((posternref14_Member.f a0_0 a0_1 0).bind fun t251 => ((posternref14_Member.f a1_0 a1_1 0).bind fun t252 => (if (t233 != ((Go.bits .andNot .u64 (Go.bits .andNot .u64 (Go.bits .xor .u64 t251 t252) a0_1) a1_1) == 0)) = true then (posternlaw14_TnumSets.j3 kj74 a2 t233 true a0_0 a0_1 a1_0 a1_1 t231 t232) else (if t233 = true then (posternlaw14_TnumSets.j3 kj74 a2 t233 false a0_0 a0_1 a1_0 a1_1 t231 t232) else (posternlaw14_TnumSets.j3 kj74 a2 t233 (!(t231 == 0) || (!(t232 == 0))) a0_0 a0_1 a1_0 a1_1 t231 t232)))))) = some r := H
          have A225 := Aside0.mk A2250; clear A2250
          by_cases c226 : (!(t228 == t249) || (!(t229 == t250))) = true
          ·
           rw [if_pos c226] at H
           have c226b0 : (!(t228 == t249) || (!(t229 == t250))) = true := c226
           clear c226
           exact absurd (H.trans (congrArg some hr_.out)) (by simp)
          ·
           rw [if_neg c226] at H
           have c226b0 : (!(t228 == t249) || (!(t229 == t250))) = false := by simpa using c226
           clear c226; replace H := Option.bind_eq_some_iff.mp H; obtain ⟨t251, A2270, H⟩ := H
           replace H : ((posternref14_Member.f a1_0 a1_1 0).bind fun t252 => (if (t233 != ((Go.bits .andNot .u64 (Go.bits .andNot .u64 (Go.bits .xor .u64 t251 t252) a0_1) a1_1) == 0)) = true then (posternlaw14_TnumSets.j3 kj74 a2 t233 true a0_0 a0_1 a1_0 a1_1 t231 t232) else (if t233 = true then (posternlaw14_TnumSets.j3 kj74 a2 t233 false a0_0 a0_1 a1_0 a1_1 t231 t232) else (posternlaw14_TnumSets.j3 kj74 a2 t233 (!(t231 == 0) || (!(t232 == 0))) a0_0 a0_1 a1_0 a1_1 t231 t232)))) = some r := H
           have A227 := Aside0.mk A2270; clear A2270; replace H := Option.bind_eq_some_iff.mp H; obtain ⟨t252, A2280, H⟩ := H; obtain rfl : t244 = t252 := by have ez := A223.out.symm.trans A2280; simpa only [Option.some.injEq, Prod.mk.injEq] using ez
           replace H : (if (t233 != ((Go.bits .andNot .u64 (Go.bits .andNot .u64 (Go.bits .xor .u64 t251 t244) a0_1) a1_1) == 0)) = true then (posternlaw14_TnumSets.j3 kj74 a2 t233 true a0_0 a0_1 a1_0 a1_1 t231 t232) else (if t233 = true then (posternlaw14_TnumSets.j3 kj74 a2 t233 false a0_0 a0_1 a1_0 a1_1 t231 t232) else (posternlaw14_TnumSets.j3 kj74 a2 t233 (!(t231 == 0) || (!(t232 == 0))) a0_0 a0_1 a1_0 a1_1 t231 t232))) = some r := H
           have A228 := Aside0.mk A2280; clear A2280
           have HC229 := Aside0.mk H
           clear H
           try go_wp2
           have n0_ := Aside0.mk (blk_drew BK211.out); have n1_ := Aside0.mk (blk_drew BK212.out); have n2_ := Aside0.mk (blk_drew BK230.out); have n3_ := Aside0.mk (blk_drew BK234.out)
           have n4_ := Aside0.mk (below_drew1 HB.out)
           clear BK211; clear BK212; clear BK230; clear BK234; clear HB; have BK211 := n0_; have BK212 := n1_; have BK230 := n2_; have BK234 := n3_; have HB := n4_; clear n0_ n1_ n2_ n3_ n4_
           refine start_ (n := 12) (S := fun w' => w'.cell? ⟨gb230, 0, none⟩ = some (.int .u64 t228) ∧ w'.cell? ⟨gb230, 1, none⟩ = some (.int .u64 t229) ∧ w'.cell? ⟨gb211, 0, none⟩ = some (.int .u64 a0_0) ∧ w'.cell? ⟨gb211, 1, none⟩ = some (.int .u64 a0_1) ∧ w'.cell? ⟨gb212, 0, none⟩ = some (.int .u64 a1_0) ∧ w'.cell? ⟨gb212, 1, none⟩ = some (.int .u64 a1_1)) (ds := []) #[z,z,z,z,z,z,z,z,z,z,z,z] (by kernel_rfl) rfl rfl ⟨(blk_cell BK230.out 0).trans rfl, (blk_cell BK230.out 1).trans rfl, (blk_cell BK211.out 0).trans rfl, (blk_cell BK211.out 1).trans rfl, (blk_cell BK212.out 0).trans rfl, (blk_cell BK212.out 1).trans rfl⟩ (fun hHeld => ?_); refine with_tabW posternlaw14_TnumSets.tab11 posternlaw14_TnumSets.bits11 (fun HT_ HW_ => ?_)
           generalize wc.drew = w230 at BK211 BK212 BK230 BK234 HB hHeld ⊢
           refine take_ (i := 0) (N := some 116) (v := ?_) (a' := ?_) #[y,z,z,z,z,z,z,z,z,z,z,z] rfl rfl (take_ofW HT_.out HW_.out (by kernel_rfl)) (fun _ _ _ h => h) (Or.inl ⟨by rfl, ?_⟩) hHeld ?_ ?_; rotate_left
           ·
            rintro w' ⟨s0, s1, s2, s3, s4, s5⟩
            go_simp; with_reducible rfl
           rotate_left
           · simp only [Act.put, qT, q0, q1, i64_w, i32_w]; rfl
           refine take_ (i := 1) (N := some 117) (v := ?_) (a' := ?_) #[y,y,z,z,z,z,z,z,z,z,z,z] rfl rfl (take_ofW HT_.out HW_.out (by kernel_rfl)) (fun _ _ _ h => h) (Or.inl ⟨by rfl, ?_⟩) hHeld ?_ ?_; rotate_left
           ·
            rintro w' ⟨s0, s1, s2, s3, s4, s5⟩
            go_simp; with_reducible rfl
           rotate_left
           · simp only [Act.put, qT, q0, q1, i64_w, i32_w]; rfl
           refine take_ (i := 3) (N := some 119) (v := ?_) (a' := ?_) #[y,y,z,y,z,z,z,z,z,z,z,z] rfl rfl (take_ofW HT_.out HW_.out (by kernel_rfl)) (fun _ _ _ h => h) (Or.inl ⟨by rfl, ?_⟩) hHeld ?_ ?_; rotate_left
           ·
            rintro w' ⟨s0, s1, s2, s3, s4, s5⟩
            go_simp; with_reducible rfl
           rotate_left
           · simp only [Act.put, qT, q0, q1, i64_w, i32_w]; rfl
           refine take_ (i := 5) (N := some 121) (v := ?_) (a' := ?_) #[y,y,z,y,z,y,z,z,z,z,z,z] rfl rfl (take_ofW HT_.out HW_.out (by kernel_rfl)) (fun _ _ _ h => h) (Or.inl ⟨by rfl, ?_⟩) hHeld ?_ ?_; rotate_left
           ·
            rintro w' ⟨s0, s1, s2, s3, s4, s5⟩
            go_simp; with_reducible rfl
           rotate_left
           · simp only [Act.put, qT, q0, q1, i64_w, i32_w]; rfl
           refine take_ (i := 7) (N := some 123) (v := ?_) (a' := ?_) #[y,y,z,y,z,y,z,y,z,z,z,z] rfl rfl (take_ofW HT_.out HW_.out (by kernel_rfl)) (fun _ _ _ h => h) (Or.inl ⟨by rfl, ?_⟩) hHeld ?_ ?_; rotate_left
           ·
            rintro w' ⟨s0, s1, s2, s3, s4, s5⟩
            go_simp; with_reducible rfl
           rotate_left
           · simp only [Act.put, qT, q0, q1, i64_w, i32_w]; rfl
           refine one_ (i := 2) (N := some 118) #[y,y,y,y,z,y,z,y,z,z,z,z] rfl rfl (one_of HT_.out (by kernel_rfl)) (by decide) (fun K hK => ?_)
           refine goes_ Try.func17 (by kernel_rfl) rfl #[.agg #[.int .u64 a0_0, .int .u64 a0_1], .int .u64 0] (by rfl) rfl rfl (by (try simp only [List.map_toArray, List.map_cons, List.map_nil]); first | done | rfl | (simp only [List.length_drop, List.length_take]; rfl)) ?_
           with_reducible refine (posternref14_Member.calls a0_0 a0_1 0 t242 _ A221.out).mono ?_
           rintro e w231 ⟨rfl, hb⟩; refine ⟨_, rfl, ?_⟩
           have n0_ := Aside0.mk (blk_below (g := gb211) (o := .cells #[.int .u64 a0_0, .int .u64 a0_1] 24 (0, 0)) (by (with_reducible repeat (first | apply bN | apply bD | apply bA)); exact BK211.out) hb)
           have n1_ := Aside0.mk (blk_below (g := gb212) (o := .cells #[.int .u64 a1_0, .int .u64 a1_1] 24 (0, 0)) (by (with_reducible repeat (first | apply bN | apply bD | apply bA)); exact BK212.out) hb)
           have n2_ := Aside0.mk (blk_below (g := gb230) (o := .cells #[.int .u64 t228, .int .u64 t229] 24 (0, 0)) (by (with_reducible repeat (first | apply bN | apply bD | apply bA)); exact BK230.out) hb)
           have n3_ := Aside0.mk (blk_below (g := gb234) (o := .cells #[.int .u64 t231, .int .u64 t232] 24 (0, 0)) (by (with_reducible repeat (first | apply bN | apply bD | apply bA)); exact BK234.out) hb)
           have n4_ := Aside0.mk (below_step (by repeat (first | (with_reducible first | exact HB.out | apply lA | apply lN | apply lD | refine lS ?_ ‹_›) | exact HB.out)) hb)
           clear BK211; clear BK212; clear BK230; clear BK234; clear HB; have BK211 := n0_; have BK212 := n1_; have BK230 := n2_; have BK234 := n3_; have HB := n4_; clear n0_ n1_ n2_ n3_ n4_; (try clear hb); (try clear hb2); (try clear hk); (try clear hi)
           refine hK.out _ _ ⟨(blk_cell BK230.out 0).trans rfl, (blk_cell BK230.out 1).trans rfl, (blk_cell BK211.out 0).trans rfl, (blk_cell BK211.out 1).trans rfl, (blk_cell BK212.out 0).trans rfl, (blk_cell BK212.out 1).trans rfl⟩ (fun hHeld => ?_)
           clear hK K
           refine norm_ (a' := ?_) ?_ ?_; rotate_left
           ·
            show Act.put _ (some 118) _ = _
            simp only [Act.put, qT, q0, q1, i64_w, i32_w]; rfl
           refine one_ (i := 4) (N := some 120) #[y,y,y,y,y,y,z,y,z,z,z,z] rfl rfl (one_of HT_.out (by kernel_rfl)) (by decide) (fun K hK => ?_)
           refine goes_ Try.func17 (by kernel_rfl) rfl #[.agg #[.int .u64 a0_0, .int .u64 a0_1], .int .u64 18446744073709551615] (by rfl) rfl rfl (by (try simp only [List.map_toArray, List.map_cons, List.map_nil]); first | done | rfl | (simp only [List.length_drop, List.length_take]; rfl)) ?_
           with_reducible refine (posternref14_Member.calls a0_0 a0_1 18446744073709551615 t243 _ A222.out).mono ?_
           rintro e w232 ⟨rfl, hb⟩; refine ⟨_, rfl, ?_⟩
           have n0_ := Aside0.mk (blk_below (g := gb211) (o := .cells #[.int .u64 a0_0, .int .u64 a0_1] 24 (0, 0)) (by (with_reducible repeat (first | apply bN | apply bD | apply bA)); exact BK211.out) hb)
           have n1_ := Aside0.mk (blk_below (g := gb212) (o := .cells #[.int .u64 a1_0, .int .u64 a1_1] 24 (0, 0)) (by (with_reducible repeat (first | apply bN | apply bD | apply bA)); exact BK212.out) hb)
           have n2_ := Aside0.mk (blk_below (g := gb230) (o := .cells #[.int .u64 t228, .int .u64 t229] 24 (0, 0)) (by (with_reducible repeat (first | apply bN | apply bD | apply bA)); exact BK230.out) hb)
           have n3_ := Aside0.mk (blk_below (g := gb234) (o := .cells #[.int .u64 t231, .int .u64 t232] 24 (0, 0)) (by (with_reducible repeat (first | apply bN | apply bD | apply bA)); exact BK234.out) hb)
           have n4_ := Aside0.mk (below_step (by repeat (first | (with_reducible first | exact HB.out | apply lA | apply lN | apply lD | refine lS ?_ ‹_›) | exact HB.out)) hb)
           clear BK211; clear BK212; clear BK230; clear BK234; clear HB; have BK211 := n0_; have BK212 := n1_; have BK230 := n2_; have BK234 := n3_; have HB := n4_; clear n0_ n1_ n2_ n3_ n4_; (try clear hb); (try clear hb2); (try clear hk); (try clear hi)
           refine hK.out _ _ ⟨(blk_cell BK230.out 0).trans rfl, (blk_cell BK230.out 1).trans rfl, (blk_cell BK211.out 0).trans rfl, (blk_cell BK211.out 1).trans rfl, (blk_cell BK212.out 0).trans rfl, (blk_cell BK212.out 1).trans rfl⟩ (fun hHeld => ?_)
           clear hK K
           refine norm_ (a' := ?_) ?_ ?_; rotate_left
           ·
            show Act.put _ (some 120) _ = _
            simp only [Act.put, qT, q0, q1, i64_w, i32_w]; rfl
           refine one_ (i := 6) (N := some 122) #[y,y,y,y,y,y,y,y,z,z,z,z] rfl rfl (one_of HT_.out (by kernel_rfl)) (by decide) (fun K hK => ?_)
           refine goes_ Try.func17 (by kernel_rfl) rfl #[.agg #[.int .u64 a1_0, .int .u64 a1_1], .int .u64 0] (by rfl) rfl rfl (by (try simp only [List.map_toArray, List.map_cons, List.map_nil]); first | done | rfl | (simp only [List.length_drop, List.length_take]; rfl)) ?_
           with_reducible refine (posternref14_Member.calls a1_0 a1_1 0 t244 _ A223.out).mono ?_
           rintro e w233 ⟨rfl, hb⟩; refine ⟨_, rfl, ?_⟩
           have n0_ := Aside0.mk (blk_below (g := gb211) (o := .cells #[.int .u64 a0_0, .int .u64 a0_1] 24 (0, 0)) (by (with_reducible repeat (first | apply bN | apply bD | apply bA)); exact BK211.out) hb)
           have n1_ := Aside0.mk (blk_below (g := gb212) (o := .cells #[.int .u64 a1_0, .int .u64 a1_1] 24 (0, 0)) (by (with_reducible repeat (first | apply bN | apply bD | apply bA)); exact BK212.out) hb)
           have n2_ := Aside0.mk (blk_below (g := gb230) (o := .cells #[.int .u64 t228, .int .u64 t229] 24 (0, 0)) (by (with_reducible repeat (first | apply bN | apply bD | apply bA)); exact BK230.out) hb)
           have n3_ := Aside0.mk (blk_below (g := gb234) (o := .cells #[.int .u64 t231, .int .u64 t232] 24 (0, 0)) (by (with_reducible repeat (first | apply bN | apply bD | apply bA)); exact BK234.out) hb)
           have n4_ := Aside0.mk (below_step (by repeat (first | (with_reducible first | exact HB.out | apply lA | apply lN | apply lD | refine lS ?_ ‹_›) | exact HB.out)) hb)
           clear BK211; clear BK212; clear BK230; clear BK234; clear HB; have BK211 := n0_; have BK212 := n1_; have BK230 := n2_; have BK234 := n3_; have HB := n4_; clear n0_ n1_ n2_ n3_ n4_; (try clear hb); (try clear hb2); (try clear hk); (try clear hi)
           refine hK.out _ _ ⟨(blk_cell BK230.out 0).trans rfl, (blk_cell BK230.out 1).trans rfl, (blk_cell BK211.out 0).trans rfl, (blk_cell BK211.out 1).trans rfl, (blk_cell BK212.out 0).trans rfl, (blk_cell BK212.out 1).trans rfl⟩ (fun hHeld => ?_)
           clear hK K
           refine norm_ (a' := ?_) ?_ ?_; rotate_left
           ·
            show Act.put _ (some 122) _ = _
            simp only [Act.put, qT, q0, q1, i64_w, i32_w]; rfl
           refine one_ (i := 8) (N := some 124) #[y,y,y,y,y,y,y,y,y,z,z,z] rfl rfl (one_of HT_.out (by kernel_rfl)) (by decide) (fun K hK => ?_)
           refine goes_ Try.func17 (by kernel_rfl) rfl #[.agg #[.int .u64 a1_0, .int .u64 a1_1], .int .u64 18446744073709551615] (by rfl) rfl rfl (by (try simp only [List.map_toArray, List.map_cons, List.map_nil]); first | done | rfl | (simp only [List.length_drop, List.length_take]; rfl)) ?_
           with_reducible refine (posternref14_Member.calls a1_0 a1_1 18446744073709551615 t245 _ A224.out).mono ?_
           rintro e w234 ⟨rfl, hb⟩; refine ⟨_, rfl, ?_⟩
           have n0_ := Aside0.mk (blk_below (g := gb211) (o := .cells #[.int .u64 a0_0, .int .u64 a0_1] 24 (0, 0)) (by (with_reducible repeat (first | apply bN | apply bD | apply bA)); exact BK211.out) hb)
           have n1_ := Aside0.mk (blk_below (g := gb212) (o := .cells #[.int .u64 a1_0, .int .u64 a1_1] 24 (0, 0)) (by (with_reducible repeat (first | apply bN | apply bD | apply bA)); exact BK212.out) hb)
           have n2_ := Aside0.mk (blk_below (g := gb230) (o := .cells #[.int .u64 t228, .int .u64 t229] 24 (0, 0)) (by (with_reducible repeat (first | apply bN | apply bD | apply bA)); exact BK230.out) hb)
           have n3_ := Aside0.mk (blk_below (g := gb234) (o := .cells #[.int .u64 t231, .int .u64 t232] 24 (0, 0)) (by (with_reducible repeat (first | apply bN | apply bD | apply bA)); exact BK234.out) hb)
           have n4_ := Aside0.mk (below_step (by repeat (first | (with_reducible first | exact HB.out | apply lA | apply lN | apply lD | refine lS ?_ ‹_›) | exact HB.out)) hb)
           clear BK211; clear BK212; clear BK230; clear BK234; clear HB; have BK211 := n0_; have BK212 := n1_; have BK230 := n2_; have BK234 := n3_; have HB := n4_; clear n0_ n1_ n2_ n3_ n4_; (try clear hb); (try clear hb2); (try clear hk); (try clear hi)
           refine hK.out _ _ ⟨(blk_cell BK230.out 0).trans rfl, (blk_cell BK230.out 1).trans rfl, (blk_cell BK211.out 0).trans rfl, (blk_cell BK211.out 1).trans rfl, (blk_cell BK212.out 0).trans rfl, (blk_cell BK212.out 1).trans rfl⟩ (fun hHeld => ?_)
           clear hK K
           refine norm_ (a' := ?_) ?_ ?_; rotate_left
           ·
            show Act.put _ (some 124) _ = _
            simp only [Act.put, qT, q0, q1, i64_w, i32_w]; rfl
           refine one_ (i := 9) (N := some 125) #[y,y,y,y,y,y,y,y,y,y,z,z] rfl rfl (one_of HT_.out (by kernel_rfl)) (by decide) (fun K hK => ?_)
           refine Kd.R_lit_step (Kd.int .u64) _ 22 ?hg (N := 125) ?hd (xs := ([t242, t243, t244, t245] : List Int)) (inner := [.int .u64 t242, .int .u64 t243, .int .u64 t244, .int .u64 t245]) (ok := fun _ => True) (okp := fun _ => True) ?hr ?hp (fun _ hk => hk) trivial (Below.refl _ _) (Nat.le_refl _) (by simp) ?_; (case hd => rfl); (case hg => rfl); (case hr => first | (go_simp; done) | (go_simp; rfl)); (case hp => exact (Reps.one (show Kd.M (Kd.int .u64) _ _ _ t242 [.int .u64 t242] from rfl) (Reps.one (show Kd.M (Kd.int .u64) _ _ _ t243 [.int .u64 t243] from rfl) (Reps.one (show Kd.M (Kd.int .u64) _ _ _ t244 [.int .u64 t244] from rfl) (Reps.one (show Kd.M (Kd.int .u64) _ _ _ t245 [.int .u64 t245] from rfl) (Reps.none _ _))))))
           intro v247 w235 ho236 hb hg_ hnew_
           clear hg_ hnew_
           (first | rw [← Ny246.out] at ho236 | (simp only [Int.reduceToNat] at ho236; rw [← Ny246.out] at ho236))
           have n0_ := Aside0.mk (Kd.R_lower ho236 (below_size (by repeat (first | (with_reducible first | exact HB.out | apply lA | apply lN | apply lD | refine lS ?_ ‹_›) | exact HB.out))))
           have n1_ := Aside0.mk (blk_below (g := gb211) (o := .cells #[.int .u64 a0_0, .int .u64 a0_1] 24 (0, 0)) (by (with_reducible repeat (first | apply bN | apply bD | apply bA)); exact BK211.out) hb)
           have n2_ := Aside0.mk (blk_below (g := gb212) (o := .cells #[.int .u64 a1_0, .int .u64 a1_1] 24 (0, 0)) (by (with_reducible repeat (first | apply bN | apply bD | apply bA)); exact BK212.out) hb)
           have n3_ := Aside0.mk (blk_below (g := gb230) (o := .cells #[.int .u64 t228, .int .u64 t229] 24 (0, 0)) (by (with_reducible repeat (first | apply bN | apply bD | apply bA)); exact BK230.out) hb)
           have n4_ := Aside0.mk (blk_below (g := gb234) (o := .cells #[.int .u64 t231, .int .u64 t232] 24 (0, 0)) (by (with_reducible repeat (first | apply bN | apply bD | apply bA)); exact BK234.out) hb)
           have n5_ := Aside0.mk (below_step (by repeat (first | (with_reducible first | exact HB.out | apply lA | apply lN | apply lD | refine lS ?_ ‹_›) | exact HB.out)) hb)
           clear BK211; clear BK212; clear BK230; clear BK234; clear HB
           have HO248 := n0_
           have BK211 := n1_; have BK212 := n2_; have BK230 := n3_; have BK234 := n4_; have HB := n5_; clear n0_ n1_ n2_ n3_ n4_ n5_; clear hb ho236
           obtain ⟨Ao237, co237, eo237⟩ := Kd.R_slice HO248.out
           (first | subst eo237 | (injection eo237 with f1_ f2_ f3_; have f4_ := f1_.symm; have f5_ := f3_.symm; clear f1_ f2_ f3_; subst f4_; subst f5_))
           refine hK.out _ _ ⟨(blk_cell BK230.out 0).trans rfl, (blk_cell BK230.out 1).trans rfl, (blk_cell BK211.out 0).trans rfl, (blk_cell BK211.out 1).trans rfl, (blk_cell BK212.out 0).trans rfl, (blk_cell BK212.out 1).trans rfl⟩ (fun hHeld => ?_)
           clear hK K
           refine norm_ (a' := ?_) ?_ ?_; rotate_left
           ·
            show Act.put _ (some 125) _ = _
            simp only [Act.put, qT, q0, q1, i64_w, i32_w]; rfl
           refine one_ (i := 10) (N := some 126) #[y,y,y,y,y,y,y,y,y,y,y,z] rfl rfl (one_of HT_.out (by kernel_rfl)) (by decide) (fun K hK => ?_)
           refine goes_ Try.func22 (by kernel_rfl) rfl #[.slice Ao237 y246.length co237] (by rfl) rfl rfl (by (try simp only [List.map_toArray, List.map_cons, List.map_nil]); first | done | rfl | (simp only [List.length_drop, List.length_take]; rfl)) ?_
           with_reducible refine (posternref14_Best.calls kj74 _ _ y246 t249 t250 _ ?side1 ?side2 A225.out).mono ?_
           (case side1 => repeat (first | exact (Kd.R_reads' HO248.out).2.2 | (with_reducible refine Kd.C_alloc ?_ _) | (with_reducible refine Kd.C_drewN ?_ _) | (with_reducible refine Kd.C_drew ?_)))
           (case side2 => exact (Kd.R_reads' HO248.out).2.1)
           rintro e w238 ⟨rfl, hb⟩; refine ⟨_, rfl, ?_⟩
           have n0_ := Aside0.mk (Kd.R_below (by (with_reducible repeat (first | apply Kd.R_alloc | apply Kd.R_drewN | apply Kd.R_drew)); exact HO248.out) hb)
           have n1_ := Aside0.mk (blk_below (g := gb211) (o := .cells #[.int .u64 a0_0, .int .u64 a0_1] 24 (0, 0)) (by (with_reducible repeat (first | apply bN | apply bD | apply bA)); exact BK211.out) hb)
           have n2_ := Aside0.mk (blk_below (g := gb212) (o := .cells #[.int .u64 a1_0, .int .u64 a1_1] 24 (0, 0)) (by (with_reducible repeat (first | apply bN | apply bD | apply bA)); exact BK212.out) hb)
           have n3_ := Aside0.mk (blk_below (g := gb230) (o := .cells #[.int .u64 t228, .int .u64 t229] 24 (0, 0)) (by (with_reducible repeat (first | apply bN | apply bD | apply bA)); exact BK230.out) hb)
           have n4_ := Aside0.mk (blk_below (g := gb234) (o := .cells #[.int .u64 t231, .int .u64 t232] 24 (0, 0)) (by (with_reducible repeat (first | apply bN | apply bD | apply bA)); exact BK234.out) hb)
           have n5_ := Aside0.mk (below_step (by repeat (first | (with_reducible first | exact HB.out | apply lA | apply lN | apply lD | refine lS ?_ ‹_›) | exact HB.out)) hb)
           clear HO248; clear BK211; clear BK212; clear BK230; clear BK234; clear HB
           have HO248 := n0_
           have BK211 := n1_; have BK212 := n2_; have BK230 := n3_; have BK234 := n4_; have HB := n5_; clear n0_ n1_ n2_ n3_ n4_ n5_; (try clear hb); (try clear hb2); (try clear hk); (try clear hi)
           refine hK.out _ _ ⟨(blk_cell BK230.out 0).trans rfl, (blk_cell BK230.out 1).trans rfl, (blk_cell BK211.out 0).trans rfl, (blk_cell BK211.out 1).trans rfl, (blk_cell BK212.out 0).trans rfl, (blk_cell BK212.out 1).trans rfl⟩ (fun hHeld => ?_)
           clear hK K
           refine norm_ (a' := ?_) ?_ ?_; rotate_left
           ·
            show Act.put _ (some 126) _ = _
            simp only [Act.put, qT, q0, q1, i64_w, i32_w]; rfl
           refine pure_ (i := 11) (N := some 127) (v := ?_) (a' := ?_) #[y,y,y,y,y,y,y,y,y,y,y,y] rfl rfl (any_of HT_.out (by kernel_rfl)) (fun _ _ _ h => h) (Or.inl ⟨by rfl, ?_⟩) ?_ ?_; rotate_left
           · intro w'; go_simp; with_reducible rfl
           rotate_left
           · simp only [Act.put, qT, q0, q1, i64_w, i32_w]; rfl
           refine done_ (done_of HT_.out (by kernel_rfl)) ?_
           try go_wp2
           have n0_ := Aside0.mk (Kd.R_drew HO248.out)
           have n1_ := Aside0.mk (blk_drew BK211.out); have n2_ := Aside0.mk (blk_drew BK212.out); have n3_ := Aside0.mk (blk_drew BK230.out); have n4_ := Aside0.mk (blk_drew BK234.out)
           have n5_ := Aside0.mk (below_drew1 HB.out)
           clear HO248; clear BK211; clear BK212; clear BK230; clear BK234; clear HB
           have HO248 := n0_
           have BK211 := n1_; have BK212 := n2_; have BK230 := n3_; have BK234 := n4_; have HB := n5_; clear n0_ n1_ n2_ n3_ n4_ n5_
           refine start_ (n := 13) (S := fun w' => w'.cell? ⟨gb211, 0, none⟩ = some (.int .u64 a0_0) ∧ w'.cell? ⟨gb211, 1, none⟩ = some (.int .u64 a0_1) ∧ w'.cell? ⟨gb212, 0, none⟩ = some (.int .u64 a1_0) ∧ w'.cell? ⟨gb212, 1, none⟩ = some (.int .u64 a1_1)) (ds := []) #[z,z,z,z,z,z,z,z,z,z,z,z,z] (by kernel_rfl) rfl rfl ⟨(blk_cell BK211.out 0).trans rfl, (blk_cell BK211.out 1).trans rfl, (blk_cell BK212.out 0).trans rfl, (blk_cell BK212.out 1).trans rfl⟩ (fun hHeld => ?_); refine with_tabW posternlaw14_TnumSets.tab13 posternlaw14_TnumSets.bits13 (fun HT_ HW_ => ?_)
           generalize w238.drew = w239 at HO248 BK211 BK212 BK230 BK234 HB hHeld ⊢
           refine pure_ (i := 5) (N := some 133) (v := ?_) (a' := ?_) #[z,z,z,z,z,y,z,z,z,z,z,z,z] rfl rfl (any_of HT_.out (by kernel_rfl)) (fun _ _ _ h => h) (Or.inl ⟨by rfl, ?_⟩) ?_ ?_; rotate_left
           · intro w'; go_simp; with_reducible rfl
           rotate_left
           · simp only [Act.put, qT, q0, q1, i64_w, i32_w]; rfl
           refine pure_ (i := 8) (N := some 136) (v := ?_) (a' := ?_) #[z,z,z,z,z,y,z,z,y,z,z,z,z] rfl rfl (any_of HT_.out (by kernel_rfl)) (fun _ _ _ h => h) (Or.inl ⟨by rfl, ?_⟩) ?_ ?_; rotate_left
           · intro w'; go_simp; with_reducible rfl
           rotate_left
           · simp only [Act.put, qT, q0, q1, i64_w, i32_w]; rfl
           refine take_ (i := 0) (N := some 128) (v := ?_) (a' := ?_) #[y,z,z,z,z,y,z,z,y,z,z,z,z] rfl rfl (take_ofW HT_.out HW_.out (by kernel_rfl)) (fun _ _ _ h => h) (Or.inl ⟨by rfl, ?_⟩) hHeld ?_ ?_; rotate_left
           ·
            rintro w' ⟨s0, s1, s2, s3⟩
            go_simp; with_reducible rfl
           rotate_left
           · simp only [Act.put, qT, q0, q1, i64_w, i32_w]; rfl
           refine take_ (i := 2) (N := some 130) (v := ?_) (a' := ?_) #[y,z,y,z,z,y,z,z,y,z,z,z,z] rfl rfl (take_ofW HT_.out HW_.out (by kernel_rfl)) (fun _ _ _ h => h) (Or.inl ⟨by rfl, ?_⟩) hHeld ?_ ?_; rotate_left
           ·
            rintro w' ⟨s0, s1, s2, s3⟩
            go_simp; with_reducible rfl
           rotate_left
           · simp only [Act.put, qT, q0, q1, i64_w, i32_w]; rfl
           refine take_ (i := 6) (N := some 134) (v := ?_) (a' := ?_) #[y,z,y,z,z,y,y,z,y,z,z,z,z] rfl rfl (take_ofW HT_.out HW_.out (by kernel_rfl)) (fun _ _ _ h => h) (Or.inl ⟨by rfl, ?_⟩) hHeld ?_ ?_; rotate_left
           ·
            rintro w' ⟨s0, s1, s2, s3⟩
            go_simp; with_reducible rfl
           rotate_left
           · simp only [Act.put, qT, q0, q1, i64_w, i32_w]; rfl
           refine take_ (i := 9) (N := some 137) (v := ?_) (a' := ?_) #[y,z,y,z,z,y,y,z,y,y,z,z,z] rfl rfl (take_ofW HT_.out HW_.out (by kernel_rfl)) (fun _ _ _ h => h) (Or.inl ⟨by rfl, ?_⟩) hHeld ?_ ?_; rotate_left
           ·
            rintro w' ⟨s0, s1, s2, s3⟩
            go_simp; with_reducible rfl
           rotate_left
           · simp only [Act.put, qT, q0, q1, i64_w, i32_w]; rfl
           refine one_ (i := 1) (N := some 129) #[y,y,y,z,z,y,y,z,y,y,z,z,z] rfl rfl (one_of HT_.out (by kernel_rfl)) (by decide) (fun K hK => ?_)
           refine goes_ Try.func17 (by kernel_rfl) rfl #[.agg #[.int .u64 a0_0, .int .u64 a0_1], .int .u64 0] (by rfl) rfl rfl (by (try simp only [List.map_toArray, List.map_cons, List.map_nil]); first | done | rfl | (simp only [List.length_drop, List.length_take]; rfl)) ?_
           with_reducible refine (posternref14_Member.calls a0_0 a0_1 0 t251 _ A227.out).mono ?_
           rintro e w240 ⟨rfl, hb⟩; refine ⟨_, rfl, ?_⟩
           have n0_ := Aside0.mk (Kd.R_below (by (with_reducible repeat (first | apply Kd.R_alloc | apply Kd.R_drewN | apply Kd.R_drew)); exact HO248.out) hb)
           have n1_ := Aside0.mk (blk_below (g := gb211) (o := .cells #[.int .u64 a0_0, .int .u64 a0_1] 24 (0, 0)) (by (with_reducible repeat (first | apply bN | apply bD | apply bA)); exact BK211.out) hb)
           have n2_ := Aside0.mk (blk_below (g := gb212) (o := .cells #[.int .u64 a1_0, .int .u64 a1_1] 24 (0, 0)) (by (with_reducible repeat (first | apply bN | apply bD | apply bA)); exact BK212.out) hb)
           have n3_ := Aside0.mk (blk_below (g := gb230) (o := .cells #[.int .u64 t228, .int .u64 t229] 24 (0, 0)) (by (with_reducible repeat (first | apply bN | apply bD | apply bA)); exact BK230.out) hb)
           have n4_ := Aside0.mk (blk_below (g := gb234) (o := .cells #[.int .u64 t231, .int .u64 t232] 24 (0, 0)) (by (with_reducible repeat (first | apply bN | apply bD | apply bA)); exact BK234.out) hb)
           have n5_ := Aside0.mk (below_step (by repeat (first | (with_reducible first | exact HB.out | apply lA | apply lN | apply lD | refine lS ?_ ‹_›) | exact HB.out)) hb)
           clear HO248; clear BK211; clear BK212; clear BK230; clear BK234; clear HB
           have HO248 := n0_
           have BK211 := n1_; have BK212 := n2_; have BK230 := n3_; have BK234 := n4_; have HB := n5_; clear n0_ n1_ n2_ n3_ n4_ n5_; (try clear hb); (try clear hb2); (try clear hk); (try clear hi)
           refine hK.out _ _ ⟨(blk_cell BK211.out 0).trans rfl, (blk_cell BK211.out 1).trans rfl, (blk_cell BK212.out 0).trans rfl, (blk_cell BK212.out 1).trans rfl⟩ (fun hHeld => ?_)
           clear hK K
           refine norm_ (a' := ?_) ?_ ?_; rotate_left
           ·
            show Act.put _ (some 129) _ = _
            simp only [Act.put, qT, q0, q1, i64_w, i32_w]; rfl
           refine one_ (i := 3) (N := some 131) #[y,y,y,y,z,y,y,z,y,y,z,z,z] rfl rfl (one_of HT_.out (by kernel_rfl)) (by decide) (fun K hK => ?_)
           refine goes_ Try.func17 (by kernel_rfl) rfl #[.agg #[.int .u64 a1_0, .int .u64 a1_1], .int .u64 0] (by rfl) rfl rfl (by (try simp only [List.map_toArray, List.map_cons, List.map_nil]); first | done | rfl | (simp only [List.length_drop, List.length_take]; rfl)) ?_
           with_reducible refine (posternref14_Member.calls a1_0 a1_1 0 t244 _ A228.out).mono ?_
           rintro e w241 ⟨rfl, hb⟩; refine ⟨_, rfl, ?_⟩
           have n0_ := Aside0.mk (Kd.R_below (by (with_reducible repeat (first | apply Kd.R_alloc | apply Kd.R_drewN | apply Kd.R_drew)); exact HO248.out) hb)
           have n1_ := Aside0.mk (blk_below (g := gb211) (o := .cells #[.int .u64 a0_0, .int .u64 a0_1] 24 (0, 0)) (by (with_reducible repeat (first | apply bN | apply bD | apply bA)); exact BK211.out) hb)
           have n2_ := Aside0.mk (blk_below (g := gb212) (o := .cells #[.int .u64 a1_0, .int .u64 a1_1] 24 (0, 0)) (by (with_reducible repeat (first | apply bN | apply bD | apply bA)); exact BK212.out) hb)
           have n3_ := Aside0.mk (blk_below (g := gb230) (o := .cells #[.int .u64 t228, .int .u64 t229] 24 (0, 0)) (by (with_reducible repeat (first | apply bN | apply bD | apply bA)); exact BK230.out) hb)
           have n4_ := Aside0.mk (blk_below (g := gb234) (o := .cells #[.int .u64 t231, .int .u64 t232] 24 (0, 0)) (by (with_reducible repeat (first | apply bN | apply bD | apply bA)); exact BK234.out) hb)
           have n5_ := Aside0.mk (below_step (by repeat (first | (with_reducible first | exact HB.out | apply lA | apply lN | apply lD | refine lS ?_ ‹_›) | exact HB.out)) hb)
           clear HO248; clear BK211; clear BK212; clear BK230; clear BK234; clear HB
           have HO248 := n0_
           have BK211 := n1_; have BK212 := n2_; have BK230 := n3_; have BK234 := n4_; have HB := n5_; clear n0_ n1_ n2_ n3_ n4_ n5_; (try clear hb); (try clear hb2); (try clear hk); (try clear hi)
           refine hK.out _ _ ⟨(blk_cell BK211.out 0).trans rfl, (blk_cell BK211.out 1).trans rfl, (blk_cell BK212.out 0).trans rfl, (blk_cell BK212.out 1).trans rfl⟩ (fun hHeld => ?_)
           clear hK K
           refine norm_ (a' := ?_) ?_ ?_; rotate_left
           ·
            show Act.put _ (some 131) _ = _
            simp only [Act.put, qT, q0, q1, i64_w, i32_w]; rfl
           refine pure_ (i := 4) (N := some 132) (v := ?_) (a' := ?_) #[y,y,y,y,y,y,y,z,y,y,z,z,z] rfl rfl (any_of HT_.out (by kernel_rfl)) (fun _ _ _ h => h) (Or.inl ⟨by rfl, ?_⟩) ?_ ?_; rotate_left
           · intro w'; go_simp; with_reducible rfl
           rotate_left
           · simp only [Act.put, qT, q0, q1, i64_w, i32_w]; rfl
           refine pure_ (i := 7) (N := some 135) (v := ?_) (a' := ?_) #[y,y,y,y,y,y,y,y,y,y,z,z,z] rfl rfl (any_of HT_.out (by kernel_rfl)) (fun _ _ _ h => h) (Or.inl ⟨by rfl, ?_⟩) ?_ ?_; rotate_left
           · intro w'; go_simp; with_reducible rfl
           rotate_left
           · simp only [Act.put, qT, q0, q1, i64_w, i32_w]; rfl
           refine pure_ (i := 10) (N := some 138) (v := ?_) (a' := ?_) #[y,y,y,y,y,y,y,y,y,y,y,z,z] rfl rfl (any_of HT_.out (by kernel_rfl)) (fun _ _ _ h => h) (Or.inl ⟨by rfl, ?_⟩) ?_ ?_; rotate_left
           · intro w'; go_simp; with_reducible rfl
           rotate_left
           · simp only [Act.put, qT, q0, q1, i64_w, i32_w]; rfl
           refine pure_ (i := 11) (N := some 139) (v := ?_) (a' := ?_) #[y,y,y,y,y,y,y,y,y,y,y,y,z] rfl rfl (any_of HT_.out (by kernel_rfl)) (fun _ _ _ h => h) (Or.inl ⟨by rfl, ?_⟩) ?_ ?_; rotate_left
           · intro w'; go_simp; with_reducible rfl
           rotate_left
           · simp only [Act.put, qT, q0, q1, i64_w, i32_w]; rfl
           refine pure_ (i := 12) (N := some 13) (v := ?_) (a' := ?_) #[y,y,y,y,y,y,y,y,y,y,y,y,y] rfl rfl (any_of HT_.out (by kernel_rfl)) (fun _ _ _ h => h) (Or.inl ⟨by rfl, ?_⟩) ?_ ?_; rotate_left
           · intro w'; go_simp; with_reducible rfl
           rotate_left
           · simp only [Act.put, qT, q0, q1, i64_w, i32_w]; rfl
           refine done_ (done_of HT_.out (by kernel_rfl)) ?_
           go_upto_region 14 with (fail)
           go_cut [151] (fun v151 wc => ∃ (kq : Nat) (x151_228 : Bool), v151 = .bool x151_228 ∧ Aside0 (posternlaw14_TnumSets.j3 kq a2 t233 x151_228 a0_0 a0_1 a1_0 a1_1 t231 t232 = some r) ∧ Aside0 (kq ≤ kj74) ∧ Aside0 (wc.heap[gb211]? = some (.cells #[.int .u64 a0_0, .int .u64 a0_1] 24 (0, 0))) ∧ Aside0 (wc.heap[gb212]? = some (.cells #[.int .u64 a1_0, .int .u64 a1_1] 24 (0, 0))) ∧ Aside0 (wc.heap[gb230]? = some (.cells #[.int .u64 t228, .int .u64 t229] 24 (0, 0))) ∧ Aside0 (wc.heap[gb234]? = some (.cells #[.int .u64 t231, .int .u64 t232] 24 (0, 0))) ∧ Aside0 (Below w.heap.size w wc))
           case first => as_aux_lemma =>
            have H := HC229.out
            clear HC229
            by_cases c242 : (t233 != ((Go.bits .andNot .u64 (Go.bits .andNot .u64 (Go.bits .xor .u64 t251 t244) a0_1) a1_1) == 0)) = true
            ·
             rw [if_pos c242] at H
             have c242b0 : (t233 != ((Go.bits .andNot .u64 (Go.bits .andNot .u64 (Go.bits .xor .u64 t251 t244) a0_1) a1_1) == 0)) = true := c242
             (try (have c242b1 : decide (t233 = ((Go.bits .andNot .u64 (Go.bits .andNot .u64 (Go.bits .xor .u64 t251 t244) a0_1) a1_1) == 0)) = false := by simpa using c242)); (try (have c242b2 : (t233 == ((Go.bits .andNot .u64 (Go.bits .andNot .u64 (Go.bits .xor .u64 t251 t244) a0_1) a1_1) == 0)) = false := by simpa using c242)); (try (have c242b3 : ¬ (t233 = ((Go.bits .andNot .u64 (Go.bits .andNot .u64 (Go.bits .xor .u64 t251 t244) a0_1) a1_1) == 0)) := by simpa using c242)); clear c242
             (first | rw [c242b0] | (simp only [i64_w, i32_w]; rw [c242b0]) | skip)
             have H' := Aside0.mk H; clear H
             go_wp2
             go_meet
             case rel => exact ⟨_, (true), (by first | rfl | (simp; done) | (simp [*]; done)), H', ⟨by have := HJ7.out; have := HJ62.out; have := HJ74.out; first | omega | exact Nat.le_refl _⟩, ⟨by (with_reducible repeat (first | apply bN | apply bD | apply bA)); exact BK211.out⟩, ⟨by (with_reducible repeat (first | apply bN | apply bD | apply bA)); exact BK212.out⟩, ⟨by (with_reducible repeat (first | apply bN | apply bD | apply bA)); exact BK230.out⟩, ⟨by (with_reducible repeat (first | apply bN | apply bD | apply bA)); exact BK234.out⟩, ⟨by repeat (first | (with_reducible first | exact HB.out | apply lA | apply lN | apply lD | refine lS ?_ ‹_›) | exact HB.out)⟩⟩
            ·
             rw [if_neg c242] at H
             have c242b0 : (t233 != ((Go.bits .andNot .u64 (Go.bits .andNot .u64 (Go.bits .xor .u64 t251 t244) a0_1) a1_1) == 0)) = false := by simpa using c242
             (try (have c242b1 : decide (t233 = ((Go.bits .andNot .u64 (Go.bits .andNot .u64 (Go.bits .xor .u64 t251 t244) a0_1) a1_1) == 0)) = true := by simpa using c242)); (try (have c242b2 : (t233 == ((Go.bits .andNot .u64 (Go.bits .andNot .u64 (Go.bits .xor .u64 t251 t244) a0_1) a1_1) == 0)) = true := by simpa using c242)); clear c242
             (first | rw [c242b0] | (simp only [i64_w, i32_w]; rw [c242b0]) | skip)
             by_cases c243 : t233 = true
             ·
              subst c243
              have H1 : (posternlaw14_TnumSets.j3 kj74 a2 true false a0_0 a0_1 a1_0 a1_1 t231 t232) = some r := by rw [if_pos rfl] at H; exact H
              clear H; have H := H1; clear H1; have H' := Aside0.mk H; clear H
              go_wp2
              go_meet
              case rel => exact ⟨_, (false), (by first | rfl | (simp; done) | (simp [*]; done)), H', ⟨by have := HJ7.out; have := HJ62.out; have := HJ74.out; first | omega | exact Nat.le_refl _⟩, ⟨by (with_reducible repeat (first | apply bN | apply bD | apply bA)); exact BK211.out⟩, ⟨by (with_reducible repeat (first | apply bN | apply bD | apply bA)); exact BK212.out⟩, ⟨by (with_reducible repeat (first | apply bN | apply bD | apply bA)); exact BK230.out⟩, ⟨by (with_reducible repeat (first | apply bN | apply bD | apply bA)); exact BK234.out⟩, ⟨by repeat (first | (with_reducible first | exact HB.out | apply lA | apply lN | apply lD | refine lS ?_ ‹_›) | exact HB.out)⟩⟩
             ·
              replace c243 := Bool.eq_false_iff.mpr c243
              subst c243
              have H1 : (posternlaw14_TnumSets.j3 kj74 a2 false (!(t231 == 0) || (!(t232 == 0))) a0_0 a0_1 a1_0 a1_1 t231 t232) = some r := by rw [if_neg (show ¬ (false = true) by decide)] at H; exact H
              clear H; have H := H1; clear H1; have H' := Aside0.mk H
              clear H; have hnb244 := NB234_211.out; have hnc244 := NB211_234.out; have hnb245 := NB234_212.out; have hnc245 := NB212_234.out; have hnb246 := NB234_230.out; have hnc246 := NB230_234.out; have hcz247_0 : w241.cell? ⟨gb234, 0, none⟩ = some (.int .u64 t231) := (blk_cell BK234.out 0).trans rfl; have hcz247_1 : w241.cell? ⟨gb234, 1, none⟩ = some (.int .u64 t232) := (blk_cell BK234.out 1).trans rfl; have hfz247_0 := blk_frozen BK234.out 0; have hfz247_1 := blk_frozen BK234.out 1
              go_wp2
              go_meet
              case rel => exact ⟨_, ((!(t231 == 0) || (!(t232 == 0)))), (by first | rfl | (simp; done) | (simp [*]; done)), H', ⟨by have := HJ7.out; have := HJ62.out; have := HJ74.out; first | omega | exact Nat.le_refl _⟩, ⟨by (with_reducible repeat (first | apply bN | apply bD | apply bA)); exact BK211.out⟩, ⟨by (with_reducible repeat (first | apply bN | apply bD | apply bA)); exact BK212.out⟩, ⟨by (with_reducible repeat (first | apply bN | apply bD | apply bA)); exact BK230.out⟩, ⟨by (with_reducible repeat (first | apply bN | apply bD | apply bA)); exact BK234.out⟩, ⟨by repeat (first | (with_reducible first | exact HB.out | apply lA | apply lN | apply lD | refine lS ?_ ‹_›) | exact HB.out)⟩⟩
           case rest => as_aux_lemma =>
            clear HC229; (try clear c1); (try clear c2); (try clear p2); (try clear c17); (try clear c22); (try clear c24); (try clear c220); (try clear c226); (try clear c226b0); (try clear c242); (try clear c242b0); (try clear c242b1); (try clear c242b2); (try clear c243); (try clear c244); (try clear c245); (try clear c246); (try clear hcz247_0); (try clear hcz247_1); (try clear hfz247_0); (try clear hfz247_1); (try clear hfz55_1); (try clear hfz60_0); (try clear hfz60_1); (try clear hfz67_0); (try clear hfz67_1); (try clear hfz68_0); (try clear hfz68_1); (try clear hfz71_0); (try clear hfz71_1); (try clear hfz72_0); (try clear hfz72_1); (try clear hfz77_0); (try clear hfz77_1); (try clear hfz78_0); (try clear hfz78_1); (try clear hfz83_0); (try clear hfz83_1); (try clear hfz84_0); (try clear hfz84_1); (try clear hfz85_0); (try clear hfz85_1); (try clear hfz91_0); (try clear hfz91_1); (try clear hfz97_0); (try clear hfz97_1); (try clear p2)
            obtain ⟨kq, x151_228, rfl, HA, HJ228, BK211, BK212, BK230, BK234, HB⟩ := hcut
            cases kq with
            | zero => exact absurd HA.out (by simp [posternlaw14_TnumSets.j3])
            | succ kj228 =>
             have H := HA.out
             clear HA
             simp only [posternlaw14_TnumSets.j3] at H
             by_cases c248 : x151_228 = true
             ·
              subst c248
              have H1 : (some false) = some r := by rw [if_pos rfl] at H; exact H
              clear H; have H := H1; clear H1
              exact absurd (H.trans (congrArg some hr_.out)) (by simp)
             ·
              replace c248 := Bool.eq_false_iff.mpr c248
              subst c248
              have H1 : (if t233 = true then ((tnum_Has.f t231 t232 a2).bind fun t253 => ((tnum_Has.f a0_0 a0_1 a2).bind fun t254 => (if t254 = true then ((tnum_Has.f a1_0 a1_1 a2).bind fun t255 => (if (t253 == t255) = true then ((tnum_In.f t231 t232 a0_0 a0_1).bind fun t256 => (if t256 = true then ((tnum_In.f t231 t232 a1_0 a1_1).bind fun t257 => (if t257 = true then (some (t232 == (Go.bits .and .u64 a0_1 a1_1))) else (some false))) else (some false))) else (some false))) else (if (t253 == false) = true then ((tnum_In.f t231 t232 a0_0 a0_1).bind fun t258 => (if t258 = true then ((tnum_In.f t231 t232 a1_0 a1_1).bind fun t259 => (if t259 = true then (some (t232 == (Go.bits .and .u64 a0_1 a1_1))) else (some false))) else (some false))) else (some false))))) else (some true)) = some r := by rw [if_neg (show ¬ (false = true) by decide)] at H; exact H
              clear H; have H := H1; clear H1
              by_cases c249 : t233 = true
              ·
               subst c249
               have H1 : ((tnum_Has.f t231 t232 a2).bind fun t253 => ((tnum_Has.f a0_0 a0_1 a2).bind fun t254 => (if t254 = true then ((tnum_Has.f a1_0 a1_1 a2).bind fun t255 => (if (t253 == t255) = true then ((tnum_In.f t231 t232 a0_0 a0_1).bind fun t256 => (if t256 = true then ((tnum_In.f t231 t232 a1_0 a1_1).bind fun t257 => (if t257 = true then (some (t232 == (Go.bits .and .u64 a0_1 a1_1))) else (some false))) else (some false))) else (some false))) else (if (t253 == false) = true then ((tnum_In.f t231 t232 a0_0 a0_1).bind fun t258 => (if t258 = true then ((tnum_In.f t231 t232 a1_0 a1_1).bind fun t259 => (if t259 = true then (some (t232 == (Go.bits .and .u64 a0_1 a1_1))) else (some false))) else (some false))) else (some false))))) = some r := by rw [if_pos rfl] at H; exact H
               clear H; have H := H1; clear H1; replace H := Option.bind_eq_some_iff.mp H; obtain ⟨t253, A2500, H⟩ := H
               replace H : ((tnum_Has.f a0_0 a0_1 a2).bind fun t254 => (if t254 = true then ((tnum_Has.f a1_0 a1_1 a2).bind fun t255 => (if (t253 == t255) = true then ((tnum_In.f t231 t232 a0_0 a0_1).bind fun t256 => (if t256 = true then ((tnum_In.f t231 t232 a1_0 a1_1).bind fun t257 => (if t257 = true then (some (t232 == (Go.bits .and .u64 a0_1 a1_1))) else (some false))) else (some false))) else (some false))) else (if (t253 == false) = true then ((tnum_In.f t231 t232 a0_0 a0_1).bind fun t258 => (if t258 = true then ((tnum_In.f t231 t232 a1_0 a1_1).bind fun t259 => (if t259 = true then (some (t232 == (Go.bits .and .u64 a0_1 a1_1))) else (some false))) else (some false))) else (some false)))) = some r := H
               have A250 := Aside0.mk A2500; clear A2500; replace H := Option.bind_eq_some_iff.mp H; obtain ⟨t254, A2510, H⟩ := H
               replace H : (if t254 = true then ((tnum_Has.f a1_0 a1_1 a2).bind fun t255 => (if (t253 == t255) = true then ((tnum_In.f t231 t232 a0_0 a0_1).bind fun t256 => (if t256 = true then ((tnum_In.f t231 t232 a1_0 a1_1).bind fun t257 => (if t257 = true then (some (t232 == (Go.bits .and .u64 a0_1 a1_1))) else (some false))) else (some false))) else (some false))) else (if (t253 == false) = true then ((tnum_In.f t231 t232 a0_0 a0_1).bind fun t258 => (if t258 = true then ((tnum_In.f t231 t232 a1_0 a1_1).bind fun t259 => (if t259 = true then (some (t232 == (Go.bits .and .u64 a0_1 a1_1))) else (some false))) else (some false))) else (some false))) = some r := H
               have A251 := Aside0.mk A2510; clear A2510
               by_cases c252 : t254 = true
               ·
                subst c252
                have H1 : ((tnum_Has.f a1_0 a1_1 a2).bind fun t255 => (if (t253 == t255) = true then ((tnum_In.f t231 t232 a0_0 a0_1).bind fun t256 => (if t256 = true then ((tnum_In.f t231 t232 a1_0 a1_1).bind fun t257 => (if t257 = true then (some (t232 == (Go.bits .and .u64 a0_1 a1_1))) else (some false))) else (some false))) else (some false))) = some r := by rw [if_pos rfl] at H; exact H
                clear H; have H := H1; clear H1; replace H := Option.bind_eq_some_iff.mp H; obtain ⟨t255, A2530, H⟩ := H
                replace H : (if (t253 == t255) = true then ((tnum_In.f t231 t232 a0_0 a0_1).bind fun t256 => (if t256 = true then ((tnum_In.f t231 t232 a1_0 a1_1).bind fun t257 => (if t257 = true then (some (t232 == (Go.bits .and .u64 a0_1 a1_1))) else (some false))) else (some false))) else (some false)) = some r := H
                have A253 := Aside0.mk A2530; clear A2530
                by_cases c254 : (t253 == t255) = true
                ·
                 rw [if_pos c254] at H
                 have c254b0 : (t253 == t255) = true := c254
                 (try (have c254b1 : decide (t253 = t255) = true := by simpa using c254)); (try (have c254b2 : (t253 == t255) = true := by simpa using c254))
                 clear c254; replace H := Option.bind_eq_some_iff.mp H; obtain ⟨t256, A2550, H⟩ := H
                 replace H : (if t256 = true then ((tnum_In.f t231 t232 a1_0 a1_1).bind fun t257 => (if t257 = true then (some (t232 == (Go.bits .and .u64 a0_1 a1_1))) else (some false))) else (some false)) = some r := H
                 have A255 := Aside0.mk A2550; clear A2550
                 by_cases c256 : t256 = true
                 ·
                  subst c256
                  have H1 : ((tnum_In.f t231 t232 a1_0 a1_1).bind fun t257 => (if t257 = true then (some (t232 == (Go.bits .and .u64 a0_1 a1_1))) else (some false))) = some r := by rw [if_pos rfl] at H; exact H
                  clear H; have H := H1; clear H1; replace H := Option.bind_eq_some_iff.mp H; obtain ⟨t257, A2570, H⟩ := H
                  replace H : (if t257 = true then (some (t232 == (Go.bits .and .u64 a0_1 a1_1))) else (some false)) = some r := H
                  have A257 := Aside0.mk A2570; clear A2570
                  by_cases c258 : t257 = true
                  ·
                   subst c258
                   have H1 : (some (t232 == (Go.bits .and .u64 a0_1 a1_1))) = some r := by rw [if_pos rfl] at H; exact H
                   clear H; have H := H1; clear H1
                   obtain rfl := Option.some.inj H
                   try go_wp2
                   have n0_ := Aside0.mk (blk_drew BK211.out); have n1_ := Aside0.mk (blk_drew BK212.out); have n2_ := Aside0.mk (blk_drew BK230.out); have n3_ := Aside0.mk (blk_drew BK234.out)
                   have n4_ := Aside0.mk (below_drew1 HB.out)
                   clear BK211; clear BK212; clear BK230; clear BK234; clear HB; have BK211 := n0_; have BK212 := n1_; have BK230 := n2_; have BK234 := n3_; have HB := n4_; clear n0_ n1_ n2_ n3_ n4_
                   refine start_ (n := 37) (S := fun w' => w'.cell? ⟨gb234, 0, none⟩ = some (.int .u64 t231) ∧ w'.cell? ⟨gb234, 1, none⟩ = some (.int .u64 t232) ∧ w'.cell? ⟨gb211, 0, none⟩ = some (.int .u64 a0_0) ∧ w'.cell? ⟨gb211, 1, none⟩ = some (.int .u64 a0_1) ∧ w'.cell? ⟨gb212, 0, none⟩ = some (.int .u64 a1_0) ∧ w'.cell? ⟨gb212, 1, none⟩ = some (.int .u64 a1_1)) (ds := []) #[z,z,z,z,z,z,z,z,z,z,z,z,z,z,z,z,z,z,z,z,z,z,z,z,z,z,z,z,z,z,z,z,z,z,z,z,z] (by kernel_rfl) rfl rfl ⟨(blk_cell BK234.out 0).trans rfl, (blk_cell BK234.out 1).trans rfl, (blk_cell BK211.out 0).trans rfl, (blk_cell BK211.out 1).trans rfl, (blk_cell BK212.out 0).trans rfl, (blk_cell BK212.out 1).trans rfl⟩ (fun hHeld => ?_); refine with_tabW posternlaw14_TnumSets.tab16 posternlaw14_TnumSets.bits16 (fun HT_ HW_ => ?_)
                   generalize wc.drew = w259 at BK211 BK212 BK230 BK234 HB hHeld ⊢
                   refine pure_ (i := 0) (N := some 152) (v := ?_) (a' := ?_) #[y,z,z,z,z,z,z,z,z,z,z,z,z,z,z,z,z,z,z,z,z,z,z,z,z,z,z,z,z,z,z,z,z,z,z,z,z] rfl rfl (any_of HT_.out (by kernel_rfl)) (fun _ _ _ h => h) (Or.inl ⟨by rfl, ?_⟩) ?_ ?_; rotate_left
                   · intro w'; go_simp; with_reducible rfl
                   rotate_left
                   · simp only [Act.put, qT, q0, q1, i64_w, i32_w]; rfl
                   refine pure_ (i := 1) (N := some 153) (v := ?_) (a' := ?_) #[y,y,z,z,z,z,z,z,z,z,z,z,z,z,z,z,z,z,z,z,z,z,z,z,z,z,z,z,z,z,z,z,z,z,z,z,z] rfl rfl (any_of HT_.out (by kernel_rfl)) (fun _ _ _ h => h) (Or.inl ⟨by rfl, ?_⟩) ?_ ?_; rotate_left
                   · intro w'; go_simp; with_reducible rfl
                   rotate_left
                   · simp only [Act.put, qT, q0, q1, i64_w, i32_w]; rfl
                   refine pure_ (i := 2) (N := some 154) (v := ?_) (a' := ?_) #[y,y,y,z,z,z,z,z,z,z,z,z,z,z,z,z,z,z,z,z,z,z,z,z,z,z,z,z,z,z,z,z,z,z,z,z,z] rfl rfl (any_of HT_.out (by kernel_rfl)) (fun _ _ _ h => h) (Or.inl ⟨by rfl, ?_⟩) ?_ ?_; rotate_left
                   · intro w'; go_simp; with_reducible rfl
                   rotate_left
                   · simp only [Act.put, qT, q0, q1, i64_w, i32_w]; rfl
                   refine pure_ (i := 4) (N := some 156) (v := ?_) (a' := ?_) #[y,y,y,z,y,z,z,z,z,z,z,z,z,z,z,z,z,z,z,z,z,z,z,z,z,z,z,z,z,z,z,z,z,z,z,z,z] rfl rfl (any_of HT_.out (by kernel_rfl)) (fun _ _ _ h => h) (Or.inl ⟨by rfl, ?_⟩) ?_ ?_; rotate_left
                   · intro w'; go_simp; with_reducible rfl
                   rotate_left
                   · simp only [Act.put, qT, q0, q1, i64_w, i32_w]; rfl
                   refine pure_ (i := 7) (N := some 159) (v := ?_) (a' := ?_) #[y,y,y,z,y,z,z,y,z,z,z,z,z,z,z,z,z,z,z,z,z,z,z,z,z,z,z,z,z,z,z,z,z,z,z,z,z] rfl rfl (any_of HT_.out (by kernel_rfl)) (fun _ _ _ h => h) (Or.inl ⟨by rfl, ?_⟩) ?_ ?_; rotate_left
                   · intro w'; go_simp; with_reducible rfl
                   rotate_left
                   · simp only [Act.put, qT, q0, q1, i64_w, i32_w]; rfl
                   refine take_ (i := 3) (N := some 155) (v := ?_) (a' := ?_) #[y,y,y,y,y,z,z,y,z,z,z,z,z,z,z,z,z,z,z,z,z,z,z,z,z,z,z,z,z,z,z,z,z,z,z,z,z] rfl rfl (take_ofW HT_.out HW_.out (by kernel_rfl)) (fun _ _ _ h => h) (Or.inl ⟨by rfl, ?_⟩) hHeld ?_ ?_; rotate_left
                   ·
                    rintro w' ⟨s0, s1, s2, s3, s4, s5⟩
                    go_simp; with_reducible rfl
                   rotate_left
                   · simp only [Act.put, qT, q0, q1, i64_w, i32_w]; rfl
                   refine take_ (i := 6) (N := some 158) (v := ?_) (a' := ?_) #[y,y,y,y,y,z,y,y,z,z,z,z,z,z,z,z,z,z,z,z,z,z,z,z,z,z,z,z,z,z,z,z,z,z,z,z,z] rfl rfl (take_ofW HT_.out HW_.out (by kernel_rfl)) (fun _ _ _ h => h) (Or.inl ⟨by rfl, ?_⟩) hHeld ?_ ?_; rotate_left
                   ·
                    rintro w' ⟨s0, s1, s2, s3, s4, s5⟩
                    go_simp; with_reducible rfl
                   rotate_left
                   · simp only [Act.put, qT, q0, q1, i64_w, i32_w]; rfl
                   refine one_ (i := 5) (N := some 157) #[y,y,y,y,y,y,y,y,z,z,z,z,z,z,z,z,z,z,z,z,z,z,z,z,z,z,z,z,z,z,z,z,z,z,z,z,z] rfl rfl (one_of HT_.out (by kernel_rfl)) (by decide) (fun K hK => ?_)
                   refine goes_ Try.func19 (by kernel_rfl) rfl #[.agg #[.int .u64 t231, .int .u64 t232], .int .u64 a2] (by rfl) rfl rfl (by (try simp only [List.map_toArray, List.map_cons, List.map_nil]); first | done | rfl | (simp only [List.length_drop, List.length_take]; rfl)) ?_
                   with_reducible refine (tnum_Has.calls t231 t232 a2 t253 _ A250.out).mono ?_
                   rintro e w260 ⟨rfl, hb⟩; refine ⟨_, rfl, ?_⟩
                   have n0_ := Aside0.mk (blk_below (g := gb211) (o := .cells #[.int .u64 a0_0, .int .u64 a0_1] 24 (0, 0)) (by (with_reducible repeat (first | apply bN | apply bD | apply bA)); exact BK211.out) hb)
                   have n1_ := Aside0.mk (blk_below (g := gb212) (o := .cells #[.int .u64 a1_0, .int .u64 a1_1] 24 (0, 0)) (by (with_reducible repeat (first | apply bN | apply bD | apply bA)); exact BK212.out) hb)
                   have n2_ := Aside0.mk (blk_below (g := gb230) (o := .cells #[.int .u64 t228, .int .u64 t229] 24 (0, 0)) (by (with_reducible repeat (first | apply bN | apply bD | apply bA)); exact BK230.out) hb)
                   have n3_ := Aside0.mk (blk_below (g := gb234) (o := .cells #[.int .u64 t231, .int .u64 t232] 24 (0, 0)) (by (with_reducible repeat (first | apply bN | apply bD | apply bA)); exact BK234.out) hb)
                   have n4_ := Aside0.mk (below_step (by repeat (first | (with_reducible first | exact HB.out | apply lA | apply lN | apply lD | refine lS ?_ ‹_›) | exact HB.out)) hb)
                   clear BK211; clear BK212; clear BK230; clear BK234; clear HB; have BK211 := n0_; have BK212 := n1_; have BK230 := n2_; have BK234 := n3_; have HB := n4_; clear n0_ n1_ n2_ n3_ n4_; (try clear hb); (try clear hb2); (try clear hk); (try clear hi)
                   refine hK.out _ _ ⟨(blk_cell BK234.out 0).trans rfl, (blk_cell BK234.out 1).trans rfl, (blk_cell BK211.out 0).trans rfl, (blk_cell BK211.out 1).trans rfl, (blk_cell BK212.out 0).trans rfl, (blk_cell BK212.out 1).trans rfl⟩ (fun hHeld => ?_)
                   clear hK K
                   refine norm_ (a' := ?_) ?_ ?_; rotate_left
                   ·
                    show Act.put _ (some 157) _ = _
                    simp only [Act.put, qT, q0, q1, i64_w, i32_w]; rfl
                   refine one_ (i := 8) (N := some 160) #[y,y,y,y,y,y,y,y,y,z,z,z,z,z,z,z,z,z,z,z,z,z,z,z,z,z,z,z,z,z,z,z,z,z,z,z,z] rfl rfl (one_of HT_.out (by kernel_rfl)) (by decide) (fun K hK => ?_)
                   refine goes_ Try.func19 (by kernel_rfl) rfl #[.agg #[.int .u64 a0_0, .int .u64 a0_1], .int .u64 a2] (by rfl) rfl rfl (by (try simp only [List.map_toArray, List.map_cons, List.map_nil]); first | done | rfl | (simp only [List.length_drop, List.length_take]; rfl)) ?_
                   with_reducible refine (tnum_Has.calls a0_0 a0_1 a2 true _ A251.out).mono ?_
                   rintro e w261 ⟨rfl, hb⟩; refine ⟨_, rfl, ?_⟩
                   have n0_ := Aside0.mk (blk_below (g := gb211) (o := .cells #[.int .u64 a0_0, .int .u64 a0_1] 24 (0, 0)) (by (with_reducible repeat (first | apply bN | apply bD | apply bA)); exact BK211.out) hb)
                   have n1_ := Aside0.mk (blk_below (g := gb212) (o := .cells #[.int .u64 a1_0, .int .u64 a1_1] 24 (0, 0)) (by (with_reducible repeat (first | apply bN | apply bD | apply bA)); exact BK212.out) hb)
                   have n2_ := Aside0.mk (blk_below (g := gb230) (o := .cells #[.int .u64 t228, .int .u64 t229] 24 (0, 0)) (by (with_reducible repeat (first | apply bN | apply bD | apply bA)); exact BK230.out) hb)
                   have n3_ := Aside0.mk (blk_below (g := gb234) (o := .cells #[.int .u64 t231, .int .u64 t232] 24 (0, 0)) (by (with_reducible repeat (first | apply bN | apply bD | apply bA)); exact BK234.out) hb)
                   have n4_ := Aside0.mk (below_step (by repeat (first | (with_reducible first | exact HB.out | apply lA | apply lN | apply lD | refine lS ?_ ‹_›) | exact HB.out)) hb)
                   clear BK211; clear BK212; clear BK230; clear BK234; clear HB; have BK211 := n0_; have BK212 := n1_; have BK230 := n2_; have BK234 := n3_; have HB := n4_; clear n0_ n1_ n2_ n3_ n4_; (try clear hb); (try clear hb2); (try clear hk); (try clear hi)
                   refine hK.out _ _ ⟨(blk_cell BK234.out 0).trans rfl, (blk_cell BK234.out 1).trans rfl, (blk_cell BK211.out 0).trans rfl, (blk_cell BK211.out 1).trans rfl, (blk_cell BK212.out 0).trans rfl, (blk_cell BK212.out 1).trans rfl⟩ (fun hHeld => ?_)
                   clear hK K
                   refine norm_ (a' := ?_) ?_ ?_; rotate_left
                   ·
                    show Act.put _ (some 160) _ = _
                    simp only [Act.put, qT, q0, q1, i64_w, i32_w]; rfl
                   refine pure_ (i := 9) (N := some 161) (v := ?_) (a' := ?_) #[y,y,y,y,y,y,y,y,y,y,z,z,z,z,z,z,z,z,z,z,z,z,z,z,z,z,z,z,z,z,z,z,z,z,z,z,z] rfl rfl (any_of HT_.out (by kernel_rfl)) (fun _ _ _ h => h) (Or.inl ⟨by rfl, ?_⟩) ?_ ?_; rotate_left
                   · intro w'; go_simp; with_reducible rfl
                   rotate_left
                   · simp only [Act.put, qT, q0, q1, i64_w, i32_w]; rfl
                   refine pure_ (i := 11) (N := some 163) (v := ?_) (a' := ?_) #[y,y,y,y,y,y,y,y,y,y,z,y,z,z,z,z,z,z,z,z,z,z,z,z,z,z,z,z,z,z,z,z,z,z,z,z,z] rfl rfl (any_of HT_.out (by kernel_rfl)) (fun _ _ _ h => h) (Or.inl ⟨by rfl, ?_⟩) ?_ ?_; rotate_left
                   · intro w'; go_simp; with_reducible rfl
                   rotate_left
                   · simp only [Act.put, qT, q0, q1, i64_w, i32_w]; rfl
                   refine take_ (i := 10) (N := some 162) (v := ?_) (a' := ?_) #[y,y,y,y,y,y,y,y,y,y,y,y,z,z,z,z,z,z,z,z,z,z,z,z,z,z,z,z,z,z,z,z,z,z,z,z,z] rfl rfl (take_ofW HT_.out HW_.out (by kernel_rfl)) (fun _ _ _ h => h) (Or.inl ⟨by rfl, ?_⟩) hHeld ?_ ?_; rotate_left
                   ·
                    rintro w' ⟨s0, s1, s2, s3, s4, s5⟩
                    go_simp; with_reducible rfl
                   rotate_left
                   · simp only [Act.put, qT, q0, q1, i64_w, i32_w]; rfl
                   refine one_ (i := 12) (N := some 164) #[y,y,y,y,y,y,y,y,y,y,y,y,y,z,z,z,z,z,z,z,z,z,z,z,z,z,z,z,z,z,z,z,z,z,z,z,z] rfl rfl (one_of HT_.out (by kernel_rfl)) (by decide) (fun K hK => ?_)
                   refine goes_ Try.func19 (by kernel_rfl) rfl #[.agg #[.int .u64 a1_0, .int .u64 a1_1], .int .u64 a2] (by rfl) rfl rfl (by (try simp only [List.map_toArray, List.map_cons, List.map_nil]); first | done | rfl | (simp only [List.length_drop, List.length_take]; rfl)) ?_
                   with_reducible refine (tnum_Has.calls a1_0 a1_1 a2 t255 _ A253.out).mono ?_
                   rintro e w262 ⟨rfl, hb⟩; refine ⟨_, rfl, ?_⟩
                   have n0_ := Aside0.mk (blk_below (g := gb211) (o := .cells #[.int .u64 a0_0, .int .u64 a0_1] 24 (0, 0)) (by (with_reducible repeat (first | apply bN | apply bD | apply bA)); exact BK211.out) hb)
                   have n1_ := Aside0.mk (blk_below (g := gb212) (o := .cells #[.int .u64 a1_0, .int .u64 a1_1] 24 (0, 0)) (by (with_reducible repeat (first | apply bN | apply bD | apply bA)); exact BK212.out) hb)
                   have n2_ := Aside0.mk (blk_below (g := gb230) (o := .cells #[.int .u64 t228, .int .u64 t229] 24 (0, 0)) (by (with_reducible repeat (first | apply bN | apply bD | apply bA)); exact BK230.out) hb)
                   have n3_ := Aside0.mk (blk_below (g := gb234) (o := .cells #[.int .u64 t231, .int .u64 t232] 24 (0, 0)) (by (with_reducible repeat (first | apply bN | apply bD | apply bA)); exact BK234.out) hb)
                   have n4_ := Aside0.mk (below_step (by repeat (first | (with_reducible first | exact HB.out | apply lA | apply lN | apply lD | refine lS ?_ ‹_›) | exact HB.out)) hb)
                   clear BK211; clear BK212; clear BK230; clear BK234; clear HB; have BK211 := n0_; have BK212 := n1_; have BK230 := n2_; have BK234 := n3_; have HB := n4_; clear n0_ n1_ n2_ n3_ n4_; (try clear hb); (try clear hb2); (try clear hk); (try clear hi)
                   refine hK.out _ _ ⟨(blk_cell BK234.out 0).trans rfl, (blk_cell BK234.out 1).trans rfl, (blk_cell BK211.out 0).trans rfl, (blk_cell BK211.out 1).trans rfl, (blk_cell BK212.out 0).trans rfl, (blk_cell BK212.out 1).trans rfl⟩ (fun hHeld => ?_)
                   clear hK K
                   refine norm_ (a' := ?_) ?_ ?_; rotate_left
                   ·
                    show Act.put _ (some 164) _ = _
                    simp only [Act.put, qT, q0, q1, i64_w, i32_w]; rfl
                   refine pure_ (i := 13) (N := some 165) (v := ?_) (a' := ?_) #[y,y,y,y,y,y,y,y,y,y,y,y,y,y,z,z,z,z,z,z,z,z,z,z,z,z,z,z,z,z,z,z,z,z,z,z,z] rfl rfl (any_of HT_.out (by kernel_rfl)) (fun _ _ _ h => h) (Or.inl ⟨by rfl, ?_⟩) ?_ ?_; rotate_left
                   · intro w'; go_simp; with_reducible rfl
                   rotate_left
                   · simp only [Act.put, qT, q0, q1, i64_w, i32_w]; rfl
                   refine pure_ (i := 14) (N := some 166) (v := ?_) (a' := ?_) #[y,y,y,y,y,y,y,y,y,y,y,y,y,y,y,z,z,z,z,z,z,z,z,z,z,z,z,z,z,z,z,z,z,z,z,z,z] rfl rfl (any_of HT_.out (by kernel_rfl)) (fun _ _ _ h => h) (Or.inl ⟨by rfl, ?_⟩) ?_ ?_; rotate_left
                   · intro w'; go_simp; with_reducible rfl
                   rotate_left
                   · simp only [Act.put, qT, q0, q1, i64_w, i32_w]; rfl
                   refine pure_ (i := 15) (N := some 167) (v := ?_) (a' := ?_) #[y,y,y,y,y,y,y,y,y,y,y,y,y,y,y,y,z,z,z,z,z,z,z,z,z,z,z,z,z,z,z,z,z,z,z,z,z] rfl rfl (any_of HT_.out (by kernel_rfl)) (fun _ _ _ h => h) (Or.inl ⟨by rfl, ?_⟩) ?_ ?_; rotate_left
                   · intro w'; go_simp; with_reducible rfl
                   rotate_left
                   · simp only [Act.put, qT, q0, q1, i64_w, i32_w]; rfl
                   refine take_ (i := 16) (N := some 168) (v := ?_) (a' := ?_) #[y,y,y,y,y,y,y,y,y,y,y,y,y,y,y,y,y,z,z,z,z,z,z,z,z,z,z,z,z,z,z,z,z,z,z,z,z] rfl rfl (take_ofW HT_.out HW_.out (by kernel_rfl)) (fun _ _ _ h => h) (Or.inl ⟨by rfl, ?_⟩) hHeld ?_ ?_; rotate_left
                   ·
                    rintro w' ⟨s0, s1, s2, s3, s4, s5⟩
                    go_simp; with_reducible rfl
                   rotate_left
                   · simp only [Act.put, qT, q0, q1, i64_w, i32_w]; rfl
                   refine take_ (i := 17) (N := some 169) (v := ?_) (a' := ?_) #[y,y,y,y,y,y,y,y,y,y,y,y,y,y,y,y,y,y,z,z,z,z,z,z,z,z,z,z,z,z,z,z,z,z,z,z,z] rfl rfl (take_ofW HT_.out HW_.out (by kernel_rfl)) (fun _ _ _ h => h) (Or.inl ⟨by rfl, ?_⟩) hHeld ?_ ?_; rotate_left
                   ·
                    rintro w' ⟨s0, s1, s2, s3, s4, s5⟩
                    go_simp; with_reducible rfl
                   rotate_left
                   · simp only [Act.put, qT, q0, q1, i64_w, i32_w]; rfl
                   refine one_ (i := 18) (N := some 170) #[y,y,y,y,y,y,y,y,y,y,y,y,y,y,y,y,y,y,y,z,z,z,z,z,z,z,z,z,z,z,z,z,z,z,z,z,z] rfl rfl (one_of HT_.out (by kernel_rfl)) (by decide) (fun K hK => ?_)
                   refine goes_ Try.func28 (by kernel_rfl) rfl #[.agg #[.int .u64 t231, .int .u64 t232], .agg #[.int .u64 a0_0, .int .u64 a0_1]] (by rfl) rfl rfl (by (try simp only [List.map_toArray, List.map_cons, List.map_nil]); first | done | rfl | (simp only [List.length_drop, List.length_take]; rfl)) ?_
                   with_reducible refine (tnum_In.calls t231 t232 a0_0 a0_1 true _ A255.out).mono ?_
                   rintro e w263 ⟨rfl, hb⟩; refine ⟨_, rfl, ?_⟩
                   have n0_ := Aside0.mk (blk_below (g := gb211) (o := .cells #[.int .u64 a0_0, .int .u64 a0_1] 24 (0, 0)) (by (with_reducible repeat (first | apply bN | apply bD | apply bA)); exact BK211.out) hb)
                   have n1_ := Aside0.mk (blk_below (g := gb212) (o := .cells #[.int .u64 a1_0, .int .u64 a1_1] 24 (0, 0)) (by (with_reducible repeat (first | apply bN | apply bD | apply bA)); exact BK212.out) hb)
                   have n2_ := Aside0.mk (blk_below (g := gb230) (o := .cells #[.int .u64 t228, .int .u64 t229] 24 (0, 0)) (by (with_reducible repeat (first | apply bN | apply bD | apply bA)); exact BK230.out) hb)
                   have n3_ := Aside0.mk (blk_below (g := gb234) (o := .cells #[.int .u64 t231, .int .u64 t232] 24 (0, 0)) (by (with_reducible repeat (first | apply bN | apply bD | apply bA)); exact BK234.out) hb)
                   have n4_ := Aside0.mk (below_step (by repeat (first | (with_reducible first | exact HB.out | apply lA | apply lN | apply lD | refine lS ?_ ‹_›) | exact HB.out)) hb)
                   clear BK211; clear BK212; clear BK230; clear BK234; clear HB; have BK211 := n0_; have BK212 := n1_; have BK230 := n2_; have BK234 := n3_; have HB := n4_; clear n0_ n1_ n2_ n3_ n4_; (try clear hb); (try clear hb2); (try clear hk); (try clear hi)
                   refine hK.out _ _ ⟨(blk_cell BK234.out 0).trans rfl, (blk_cell BK234.out 1).trans rfl, (blk_cell BK211.out 0).trans rfl, (blk_cell BK211.out 1).trans rfl, (blk_cell BK212.out 0).trans rfl, (blk_cell BK212.out 1).trans rfl⟩ (fun hHeld => ?_)
                   clear hK K
                   refine norm_ (a' := ?_) ?_ ?_; rotate_left
                   ·
                    show Act.put _ (some 170) _ = _
                    simp only [Act.put, qT, q0, q1, i64_w, i32_w]; rfl
                   refine pure_ (i := 19) (N := some 171) (v := ?_) (a' := ?_) #[y,y,y,y,y,y,y,y,y,y,y,y,y,y,y,y,y,y,y,y,z,z,z,z,z,z,z,z,z,z,z,z,z,z,z,z,z] rfl rfl (any_of HT_.out (by kernel_rfl)) (fun _ _ _ h => h) (Or.inl ⟨by rfl, ?_⟩) ?_ ?_; rotate_left
                   · intro w'; go_simp; with_reducible rfl
                   rotate_left
                   · simp only [Act.put, qT, q0, q1, i64_w, i32_w]; rfl
                   refine pure_ (i := 20) (N := some 172) (v := ?_) (a' := ?_) #[y,y,y,y,y,y,y,y,y,y,y,y,y,y,y,y,y,y,y,y,y,z,z,z,z,z,z,z,z,z,z,z,z,z,z,z,z] rfl rfl (any_of HT_.out (by kernel_rfl)) (fun _ _ _ h => h) (Or.inl ⟨by rfl, ?_⟩) ?_ ?_; rotate_left
                   · intro w'; go_simp; with_reducible rfl
                   rotate_left
                   · simp only [Act.put, qT, q0, q1, i64_w, i32_w]; rfl
                   refine take_ (i := 21) (N := some 173) (v := ?_) (a' := ?_) #[y,y,y,y,y,y,y,y,y,y,y,y,y,y,y,y,y,y,y,y,y,y,z,z,z,z,z,z,z,z,z,z,z,z,z,z,z] rfl rfl (take_ofW HT_.out HW_.out (by kernel_rfl)) (fun _ _ _ h => h) (Or.inl ⟨by rfl, ?_⟩) hHeld ?_ ?_; rotate_left
                   ·
                    rintro w' ⟨s0, s1, s2, s3, s4, s5⟩
                    go_simp; with_reducible rfl
                   rotate_left
                   · simp only [Act.put, qT, q0, q1, i64_w, i32_w]; rfl
                   refine take_ (i := 22) (N := some 174) (v := ?_) (a' := ?_) #[y,y,y,y,y,y,y,y,y,y,y,y,y,y,y,y,y,y,y,y,y,y,y,z,z,z,z,z,z,z,z,z,z,z,z,z,z] rfl rfl (take_ofW HT_.out HW_.out (by kernel_rfl)) (fun _ _ _ h => h) (Or.inl ⟨by rfl, ?_⟩) hHeld ?_ ?_; rotate_left
                   ·
                    rintro w' ⟨s0, s1, s2, s3, s4, s5⟩
                    go_simp; with_reducible rfl
                   rotate_left
                   · simp only [Act.put, qT, q0, q1, i64_w, i32_w]; rfl
                   refine one_ (i := 23) (N := some 175) #[y,y,y,y,y,y,y,y,y,y,y,y,y,y,y,y,y,y,y,y,y,y,y,y,z,z,z,z,z,z,z,z,z,z,z,z,z] rfl rfl (one_of HT_.out (by kernel_rfl)) (by decide) (fun K hK => ?_)
                   refine goes_ Try.func28 (by kernel_rfl) rfl #[.agg #[.int .u64 t231, .int .u64 t232], .agg #[.int .u64 a1_0, .int .u64 a1_1]] (by rfl) rfl rfl (by (try simp only [List.map_toArray, List.map_cons, List.map_nil]); first | done | rfl | (simp only [List.length_drop, List.length_take]; rfl)) ?_
                   with_reducible refine (tnum_In.calls t231 t232 a1_0 a1_1 true _ A257.out).mono ?_
                   rintro e w264 ⟨rfl, hb⟩; refine ⟨_, rfl, ?_⟩
                   have n0_ := Aside0.mk (blk_below (g := gb211) (o := .cells #[.int .u64 a0_0, .int .u64 a0_1] 24 (0, 0)) (by (with_reducible repeat (first | apply bN | apply bD | apply bA)); exact BK211.out) hb)
                   have n1_ := Aside0.mk (blk_below (g := gb212) (o := .cells #[.int .u64 a1_0, .int .u64 a1_1] 24 (0, 0)) (by (with_reducible repeat (first | apply bN | apply bD | apply bA)); exact BK212.out) hb)
                   have n2_ := Aside0.mk (blk_below (g := gb230) (o := .cells #[.int .u64 t228, .int .u64 t229] 24 (0, 0)) (by (with_reducible repeat (first | apply bN | apply bD | apply bA)); exact BK230.out) hb)
                   have n3_ := Aside0.mk (blk_below (g := gb234) (o := .cells #[.int .u64 t231, .int .u64 t232] 24 (0, 0)) (by (with_reducible repeat (first | apply bN | apply bD | apply bA)); exact BK234.out) hb)
                   have n4_ := Aside0.mk (below_step (by repeat (first | (with_reducible first | exact HB.out | apply lA | apply lN | apply lD | refine lS ?_ ‹_›) | exact HB.out)) hb)
                   clear BK211; clear BK212; clear BK230; clear BK234; clear HB; have BK211 := n0_; have BK212 := n1_; have BK230 := n2_; have BK234 := n3_; have HB := n4_; clear n0_ n1_ n2_ n3_ n4_; (try clear hb); (try clear hb2); (try clear hk); (try clear hi)
                   refine hK.out _ _ ⟨(blk_cell BK234.out 0).trans rfl, (blk_cell BK234.out 1).trans rfl, (blk_cell BK211.out 0).trans rfl, (blk_cell BK211.out 1).trans rfl, (blk_cell BK212.out 0).trans rfl, (blk_cell BK212.out 1).trans rfl⟩ (fun hHeld => ?_)
                   clear hK K
                   refine norm_ (a' := ?_) ?_ ?_; rotate_left
                   ·
                    show Act.put _ (some 175) _ = _
                    simp only [Act.put, qT, q0, q1, i64_w, i32_w]; rfl
                   refine pure_ (i := 24) (N := some 176) (v := ?_) (a' := ?_) #[y,y,y,y,y,y,y,y,y,y,y,y,y,y,y,y,y,y,y,y,y,y,y,y,y,z,z,z,z,z,z,z,z,z,z,z,z] rfl rfl (any_of HT_.out (by kernel_rfl)) (fun _ _ _ h => h) (Or.inl ⟨by rfl, ?_⟩) ?_ ?_; rotate_left
                   · intro w'; go_simp; with_reducible rfl
                   rotate_left
                   · simp only [Act.put, qT, q0, q1, i64_w, i32_w]; rfl
                   refine pure_ (i := 25) (N := some 177) (v := ?_) (a' := ?_) #[y,y,y,y,y,y,y,y,y,y,y,y,y,y,y,y,y,y,y,y,y,y,y,y,y,y,z,z,z,z,z,z,z,z,z,z,z] rfl rfl (any_of HT_.out (by kernel_rfl)) (fun _ _ _ h => h) (Or.inl ⟨by rfl, ?_⟩) ?_ ?_; rotate_left
                   · intro w'; go_simp; with_reducible rfl
                   rotate_left
                   · simp only [Act.put, qT, q0, q1, i64_w, i32_w]; rfl
                   refine pure_ (i := 26) (N := some 178) (v := ?_) (a' := ?_) #[y,y,y,y,y,y,y,y,y,y,y,y,y,y,y,y,y,y,y,y,y,y,y,y,y,y,y,z,z,z,z,z,z,z,z,z,z] rfl rfl (any_of HT_.out (by kernel_rfl)) (fun _ _ _ h => h) (Or.inl ⟨by rfl, ?_⟩) ?_ ?_; rotate_left
                   · intro w'; go_simp; with_reducible rfl
                   rotate_left
                   · simp only [Act.put, qT, q0, q1, i64_w, i32_w]; rfl
                   refine pure_ (i := 28) (N := some 180) (v := ?_) (a' := ?_) #[y,y,y,y,y,y,y,y,y,y,y,y,y,y,y,y,y,y,y,y,y,y,y,y,y,y,y,z,y,z,z,z,z,z,z,z,z] rfl rfl (any_of HT_.out (by kernel_rfl)) (fun _ _ _ h => h) (Or.inl ⟨by rfl, ?_⟩) ?_ ?_; rotate_left
                   · intro w'; go_simp; with_reducible rfl
                   rotate_left
                   · simp only [Act.put, qT, q0, q1, i64_w, i32_w]; rfl
                   refine pure_ (i := 30) (N := some 182) (v := ?_) (a' := ?_) #[y,y,y,y,y,y,y,y,y,y,y,y,y,y,y,y,y,y,y,y,y,y,y,y,y,y,y,z,y,z,y,z,z,z,z,z,z] rfl rfl (any_of HT_.out (by kernel_rfl)) (fun _ _ _ h => h) (Or.inl ⟨by rfl, ?_⟩) ?_ ?_; rotate_left
                   · intro w'; go_simp; with_reducible rfl
                   rotate_left
                   · simp only [Act.put, qT, q0, q1, i64_w, i32_w]; rfl
                   refine take_ (i := 27) (N := some 179) (v := ?_) (a' := ?_) #[y,y,y,y,y,y,y,y,y,y,y,y,y,y,y,y,y,y,y,y,y,y,y,y,y,y,y,y,y,z,y,z,z,z,z,z,z] rfl rfl (take_ofW HT_.out HW_.out (by kernel_rfl)) (fun _ _ _ h => h) (Or.inl ⟨by rfl, ?_⟩) hHeld ?_ ?_; rotate_left
                   ·
                    rintro w' ⟨s0, s1, s2, s3, s4, s5⟩
                    go_simp; with_reducible rfl
                   rotate_left
                   · simp only [Act.put, qT, q0, q1, i64_w, i32_w]; rfl
                   refine take_ (i := 29) (N := some 181) (v := ?_) (a' := ?_) #[y,y,y,y,y,y,y,y,y,y,y,y,y,y,y,y,y,y,y,y,y,y,y,y,y,y,y,y,y,y,y,z,z,z,z,z,z] rfl rfl (take_ofW HT_.out HW_.out (by kernel_rfl)) (fun _ _ _ h => h) (Or.inl ⟨by rfl, ?_⟩) hHeld ?_ ?_; rotate_left
                   ·
                    rintro w' ⟨s0, s1, s2, s3, s4, s5⟩
                    go_simp; with_reducible rfl
                   rotate_left
                   · simp only [Act.put, qT, q0, q1, i64_w, i32_w]; rfl
                   refine take_ (i := 31) (N := some 183) (v := ?_) (a' := ?_) #[y,y,y,y,y,y,y,y,y,y,y,y,y,y,y,y,y,y,y,y,y,y,y,y,y,y,y,y,y,y,y,y,z,z,z,z,z] rfl rfl (take_ofW HT_.out HW_.out (by kernel_rfl)) (fun _ _ _ h => h) (Or.inl ⟨by rfl, ?_⟩) hHeld ?_ ?_; rotate_left
                   ·
                    rintro w' ⟨s0, s1, s2, s3, s4, s5⟩
                    go_simp; with_reducible rfl
                   rotate_left
                   · simp only [Act.put, qT, q0, q1, i64_w, i32_w]; rfl
                   refine pure_ (i := 32) (N := some 184) (v := ?_) (a' := ?_) #[y,y,y,y,y,y,y,y,y,y,y,y,y,y,y,y,y,y,y,y,y,y,y,y,y,y,y,y,y,y,y,y,y,z,z,z,z] rfl rfl (any_of HT_.out (by kernel_rfl)) (fun _ _ _ h => h) (Or.inl ⟨by rfl, ?_⟩) ?_ ?_; rotate_left
                   · intro w'; go_simp; with_reducible rfl
                   rotate_left
                   · simp only [Act.put, qT, q0, q1, i64_w, i32_w]; rfl
                   refine pure_ (i := 33) (N := some 185) (v := ?_) (a' := ?_) #[y,y,y,y,y,y,y,y,y,y,y,y,y,y,y,y,y,y,y,y,y,y,y,y,y,y,y,y,y,y,y,y,y,y,z,z,z] rfl rfl (any_of HT_.out (by kernel_rfl)) (fun _ _ _ h => h) (Or.inl ⟨by rfl, ?_⟩) ?_ ?_; rotate_left
                   · intro w'; go_simp; with_reducible rfl
                   rotate_left
                   · simp only [Act.put, qT, q0, q1, i64_w, i32_w]; rfl
                   refine pure_ (i := 34) (N := some 186) (v := ?_) (a' := ?_) #[y,y,y,y,y,y,y,y,y,y,y,y,y,y,y,y,y,y,y,y,y,y,y,y,y,y,y,y,y,y,y,y,y,y,y,z,z] rfl rfl (any_of HT_.out (by kernel_rfl)) (fun _ _ _ h => h) (Or.inl ⟨by rfl, ?_⟩) ?_ ?_; rotate_left
                   · intro w'; go_simp; with_reducible rfl
                   rotate_left
                   · simp only [Act.put, qT, q0, q1, i64_w, i32_w]; rfl
                   refine pure_ (i := 35) (N := some 187) (v := ?_) (a' := ?_) #[y,y,y,y,y,y,y,y,y,y,y,y,y,y,y,y,y,y,y,y,y,y,y,y,y,y,y,y,y,y,y,y,y,y,y,y,z] rfl rfl (any_of HT_.out (by kernel_rfl)) (fun _ _ _ h => h) (Or.inl ⟨by rfl, ?_⟩) ?_ ?_; rotate_left
                   · intro w'; go_simp; with_reducible rfl
                   rotate_left
                   · simp only [Act.put, qT, q0, q1, i64_w, i32_w]; rfl
                   refine pure_ (i := 36) (N := some 6) (v := ?_) (a' := ?_) #[y,y,y,y,y,y,y,y,y,y,y,y,y,y,y,y,y,y,y,y,y,y,y,y,y,y,y,y,y,y,y,y,y,y,y,y,y] rfl rfl (any_of HT_.out (by kernel_rfl)) (fun _ _ _ h => h) (Or.inl ⟨by rfl, ?_⟩) ?_ ?_; rotate_left
                   · intro w'; go_simp; with_reducible rfl
                   rotate_left
                   · simp only [Act.put, qT, q0, q1, i64_w, i32_w]; rfl
                   refine done_ (done_of HT_.out (by kernel_rfl)) ?_
                   try go_wp2
                   go_ret
                   exact ⟨by first | rfl | (simp [errW_none, errW_some] <;> rfl) | (simp [*, errW_none, errW_some] <;> rfl), by repeat (first | (with_reducible first | exact HB.out | apply lA | apply lN | apply lD | refine lS ?_ ‹_›) | exact HB.out)⟩
                  ·
                   replace c258 := Bool.eq_false_iff.mpr c258
                   subst c258
                   have H1 : (some false) = some r := by rw [if_neg (show ¬ (false = true) by decide)] at H; exact H
                   clear H; have H := H1; clear H1
                   exact absurd (H.trans (congrArg some hr_.out)) (by simp)
                 ·
                  replace c256 := Bool.eq_false_iff.mpr c256
                  subst c256
                  have H1 : (some false) = some r := by rw [if_neg (show ¬ (false = true) by decide)] at H; exact H
                  clear H; have H := H1; clear H1
                  exact absurd (H.trans (congrArg some hr_.out)) (by simp)
                ·
                 rw [if_neg c254] at H
                 have c254b0 : (t253 == t255) = false := by simpa using c254
                 (try (have c254b1 : decide (t253 = t255) = false := by simpa using c254)); (try (have c254b2 : (t253 == t255) = false := by simpa using c254)); (try (have c254b3 : ¬ (t253 = t255) := by simpa using c254)); clear c254
                 exact absurd (H.trans (congrArg some hr_.out)) (by simp)
               ·
                replace c252 := Bool.eq_false_iff.mpr c252
                subst c252
                have H1 : (if (t253 == false) = true then ((tnum_In.f t231 t232 a0_0 a0_1).bind fun t258 => (if t258 = true then ((tnum_In.f t231 t232 a1_0 a1_1).bind fun t259 => (if t259 = true then (some (t232 == (Go.bits .and .u64 a0_1 a1_1))) else (some false))) else (some false))) else (some false)) = some r := by rw [if_neg (show ¬ (false = true) by decide)] at H; exact H
                clear H; have H := H1; clear H1
                by_cases c265 : (t253 == false) = true
                ·
                 rw [if_pos c265] at H
                 have c265b0 : (t253 == false) = true := c265
                 (try (have c265b1 : decide (t253 = false) = true := by simpa using c265)); (try (have c265b2 : (t253 == false) = true := by simpa using c265))
                 clear c265; replace H := Option.bind_eq_some_iff.mp H; obtain ⟨t258, A2660, H⟩ := H
                 replace H : (if t258 = true then ((tnum_In.f t231 t232 a1_0 a1_1).bind fun t259 => (if t259 = true then (some (t232 == (Go.bits .and .u64 a0_1 a1_1))) else (some false))) else (some false)) = some r := H
                 have A266 := Aside0.mk A2660; clear A2660
                 by_cases c267 : t258 = true
                 ·
                  subst c267
                  have H1 : ((tnum_In.f t231 t232 a1_0 a1_1).bind fun t259 => (if t259 = true then (some (t232 == (Go.bits .and .u64 a0_1 a1_1))) else (some false))) = some r := by rw [if_pos rfl] at H; exact H
                  clear H; have H := H1; clear H1; replace H := Option.bind_eq_some_iff.mp H; obtain ⟨t259, A2680, H⟩ := H
                  replace H : (if t259 = true then (some (t232 == (Go.bits .and .u64 a0_1 a1_1))) else (some false)) = some r := H
                  have A268 := Aside0.mk A2680; clear A2680
                  by_cases c269 : t259 = true
                  ·
                   subst c269
                   have H1 : (some (t232 == (Go.bits .and .u64 a0_1 a1_1))) = some r := by rw [if_pos rfl] at H; exact H
                   clear H; have H := H1; clear H1
                   obtain rfl := Option.some.inj H
                   try go_wp2
                   have n0_ := Aside0.mk (blk_drew BK211.out); have n1_ := Aside0.mk (blk_drew BK212.out); have n2_ := Aside0.mk (blk_drew BK230.out); have n3_ := Aside0.mk (blk_drew BK234.out)
                   have n4_ := Aside0.mk (below_drew1 HB.out)
                   clear BK211; clear BK212; clear BK230; clear BK234; clear HB; have BK211 := n0_; have BK212 := n1_; have BK230 := n2_; have BK234 := n3_; have HB := n4_; clear n0_ n1_ n2_ n3_ n4_
                   refine start_ (n := 37) (S := fun w' => w'.cell? ⟨gb234, 0, none⟩ = some (.int .u64 t231) ∧ w'.cell? ⟨gb234, 1, none⟩ = some (.int .u64 t232) ∧ w'.cell? ⟨gb211, 0, none⟩ = some (.int .u64 a0_0) ∧ w'.cell? ⟨gb211, 1, none⟩ = some (.int .u64 a0_1) ∧ w'.cell? ⟨gb212, 0, none⟩ = some (.int .u64 a1_0) ∧ w'.cell? ⟨gb212, 1, none⟩ = some (.int .u64 a1_1)) (ds := []) #[z,z,z,z,z,z,z,z,z,z,z,z,z,z,z,z,z,z,z,z,z,z,z,z,z,z,z,z,z,z,z,z,z,z,z,z,z] (by kernel_rfl) rfl rfl ⟨(blk_cell BK234.out 0).trans rfl, (blk_cell BK234.out 1).trans rfl, (blk_cell BK211.out 0).trans rfl, (blk_cell BK211.out 1).trans rfl, (blk_cell BK212.out 0).trans rfl, (blk_cell BK212.out 1).trans rfl⟩ (fun hHeld => ?_); refine with_tabW posternlaw14_TnumSets.tab16 posternlaw14_TnumSets.bits16 (fun HT_ HW_ => ?_)
                   generalize wc.drew = w270 at BK211 BK212 BK230 BK234 HB hHeld ⊢
                   refine pure_ (i := 0) (N := some 152) (v := ?_) (a' := ?_) #[y,z,z,z,z,z,z,z,z,z,z,z,z,z,z,z,z,z,z,z,z,z,z,z,z,z,z,z,z,z,z,z,z,z,z,z,z] rfl rfl (any_of HT_.out (by kernel_rfl)) (fun _ _ _ h => h) (Or.inl ⟨by rfl, ?_⟩) ?_ ?_; rotate_left
                   · intro w'; go_simp; with_reducible rfl
                   rotate_left
                   · simp only [Act.put, qT, q0, q1, i64_w, i32_w]; rfl
                   refine pure_ (i := 1) (N := some 153) (v := ?_) (a' := ?_) #[y,y,z,z,z,z,z,z,z,z,z,z,z,z,z,z,z,z,z,z,z,z,z,z,z,z,z,z,z,z,z,z,z,z,z,z,z] rfl rfl (any_of HT_.out (by kernel_rfl)) (fun _ _ _ h => h) (Or.inl ⟨by rfl, ?_⟩) ?_ ?_; rotate_left
                   · intro w'; go_simp; with_reducible rfl
                   rotate_left
                   · simp only [Act.put, qT, q0, q1, i64_w, i32_w]; rfl
                   refine pure_ (i := 2) (N := some 154) (v := ?_) (a' := ?_) #[y,y,y,z,z,z,z,z,z,z,z,z,z,z,z,z,z,z,z,z,z,z,z,z,z,z,z,z,z,z,z,z,z,z,z,z,z] rfl rfl (any_of HT_.out (by kernel_rfl)) (fun _ _ _ h => h) (Or.inl ⟨by rfl, ?_⟩) ?_ ?_; rotate_left
                   · intro w'; go_simp; with_reducible rfl
                   rotate_left
                   · simp only [Act.put, qT, q0, q1, i64_w, i32_w]; rfl
                   refine pure_ (i := 4) (N := some 156) (v := ?_) (a' := ?_) #[y,y,y,z,y,z,z,z,z,z,z,z,z,z,z,z,z,z,z,z,z,z,z,z,z,z,z,z,z,z,z,z,z,z,z,z,z] rfl rfl (any_of HT_.out (by kernel_rfl)) (fun _ _ _ h => h) (Or.inl ⟨by rfl, ?_⟩) ?_ ?_; rotate_left
                   · intro w'; go_simp; with_reducible rfl
                   rotate_left
                   · simp only [Act.put, qT, q0, q1, i64_w, i32_w]; rfl
                   refine pure_ (i := 7) (N := some 159) (v := ?_) (a' := ?_) #[y,y,y,z,y,z,z,y,z,z,z,z,z,z,z,z,z,z,z,z,z,z,z,z,z,z,z,z,z,z,z,z,z,z,z,z,z] rfl rfl (any_of HT_.out (by kernel_rfl)) (fun _ _ _ h => h) (Or.inl ⟨by rfl, ?_⟩) ?_ ?_; rotate_left
                   · intro w'; go_simp; with_reducible rfl
                   rotate_left
                   · simp only [Act.put, qT, q0, q1, i64_w, i32_w]; rfl
                   refine take_ (i := 3) (N := some 155) (v := ?_) (a' := ?_) #[y,y,y,y,y,z,z,y,z,z,z,z,z,z,z,z,z,z,z,z,z,z,z,z,z,z,z,z,z,z,z,z,z,z,z,z,z] rfl rfl (take_ofW HT_.out HW_.out (by kernel_rfl)) (fun _ _ _ h => h) (Or.inl ⟨by rfl, ?_⟩) hHeld ?_ ?_; rotate_left
                   ·
                    rintro w' ⟨s0, s1, s2, s3, s4, s5⟩
                    go_simp; with_reducible rfl
                   rotate_left
                   · simp only [Act.put, qT, q0, q1, i64_w, i32_w]; rfl
                   refine take_ (i := 6) (N := some 158) (v := ?_) (a' := ?_) #[y,y,y,y,y,z,y,y,z,z,z,z,z,z,z,z,z,z,z,z,z,z,z,z,z,z,z,z,z,z,z,z,z,z,z,z,z] rfl rfl (take_ofW HT_.out HW_.out (by kernel_rfl)) (fun _ _ _ h => h) (Or.inl ⟨by rfl, ?_⟩) hHeld ?_ ?_; rotate_left
                   ·
                    rintro w' ⟨s0, s1, s2, s3, s4, s5⟩
                    go_simp; with_reducible rfl
                   rotate_left
                   · simp only [Act.put, qT, q0, q1, i64_w, i32_w]; rfl
                   refine one_ (i := 5) (N := some 157) #[y,y,y,y,y,y,y,y,z,z,z,z,z,z,z,z,z,z,z,z,z,z,z,z,z,z,z,z,z,z,z,z,z,z,z,z,z] rfl rfl (one_of HT_.out (by kernel_rfl)) (by decide) (fun K hK => ?_)
                   refine goes_ Try.func19 (by kernel_rfl) rfl #[.agg #[.int .u64 t231, .int .u64 t232], .int .u64 a2] (by rfl) rfl rfl (by (try simp only [List.map_toArray, List.map_cons, List.map_nil]); first | done | rfl | (simp only [List.length_drop, List.length_take]; rfl)) ?_
                   with_reducible refine (tnum_Has.calls t231 t232 a2 t253 _ A250.out).mono ?_
                   rintro e w271 ⟨rfl, hb⟩; refine ⟨_, rfl, ?_⟩
                   have n0_ := Aside0.mk (blk_below (g := gb211) (o := .cells #[.int .u64 a0_0, .int .u64 a0_1] 24 (0, 0)) (by (with_reducible repeat (first | apply bN | apply bD | apply bA)); exact BK211.out) hb)
                   have n1_ := Aside0.mk (blk_below (g := gb212) (o := .cells #[.int .u64 a1_0, .int .u64 a1_1] 24 (0, 0)) (by (with_reducible repeat (first | apply bN | apply bD | apply bA)); exact BK212.out) hb)
                   have n2_ := Aside0.mk (blk_below (g := gb230) (o := .cells #[.int .u64 t228, .int .u64 t229] 24 (0, 0)) (by (with_reducible repeat (first | apply bN | apply bD | apply bA)); exact BK230.out) hb)
                   have n3_ := Aside0.mk (blk_below (g := gb234) (o := .cells #[.int .u64 t231, .int .u64 t232] 24 (0, 0)) (by (with_reducible repeat (first | apply bN | apply bD | apply bA)); exact BK234.out) hb)
                   have n4_ := Aside0.mk (below_step (by repeat (first | (with_reducible first | exact HB.out | apply lA | apply lN | apply lD | refine lS ?_ ‹_›) | exact HB.out)) hb)
                   clear BK211; clear BK212; clear BK230; clear BK234; clear HB; have BK211 := n0_; have BK212 := n1_; have BK230 := n2_; have BK234 := n3_; have HB := n4_; clear n0_ n1_ n2_ n3_ n4_; (try clear hb); (try clear hb2); (try clear hk); (try clear hi)
                   refine hK.out _ _ ⟨(blk_cell BK234.out 0).trans rfl, (blk_cell BK234.out 1).trans rfl, (blk_cell BK211.out 0).trans rfl, (blk_cell BK211.out 1).trans rfl, (blk_cell BK212.out 0).trans rfl, (blk_cell BK212.out 1).trans rfl⟩ (fun hHeld => ?_)
                   clear hK K
                   refine norm_ (a' := ?_) ?_ ?_; rotate_left
                   ·
                    show Act.put _ (some 157) _ = _
                    simp only [Act.put, qT, q0, q1, i64_w, i32_w]; rfl
                   refine one_ (i := 8) (N := some 160) #[y,y,y,y,y,y,y,y,y,z,z,z,z,z,z,z,z,z,z,z,z,z,z,z,z,z,z,z,z,z,z,z,z,z,z,z,z] rfl rfl (one_of HT_.out (by kernel_rfl)) (by decide) (fun K hK => ?_)
                   refine goes_ Try.func19 (by kernel_rfl) rfl #[.agg #[.int .u64 a0_0, .int .u64 a0_1], .int .u64 a2] (by rfl) rfl rfl (by (try simp only [List.map_toArray, List.map_cons, List.map_nil]); first | done | rfl | (simp only [List.length_drop, List.length_take]; rfl)) ?_
                   with_reducible refine (tnum_Has.calls a0_0 a0_1 a2 false _ A251.out).mono ?_
                   rintro e w272 ⟨rfl, hb⟩; refine ⟨_, rfl, ?_⟩
                   have n0_ := Aside0.mk (blk_below (g := gb211) (o := .cells #[.int .u64 a0_0, .int .u64 a0_1] 24 (0, 0)) (by (with_reducible repeat (first | apply bN | apply bD | apply bA)); exact BK211.out) hb)
                   have n1_ := Aside0.mk (blk_below (g := gb212) (o := .cells #[.int .u64 a1_0, .int .u64 a1_1] 24 (0, 0)) (by (with_reducible repeat (first | apply bN | apply bD | apply bA)); exact BK212.out) hb)
                   have n2_ := Aside0.mk (blk_below (g := gb230) (o := .cells #[.int .u64 t228, .int .u64 t229] 24 (0, 0)) (by (with_reducible repeat (first | apply bN | apply bD | apply bA)); exact BK230.out) hb)
                   have n3_ := Aside0.mk (blk_below (g := gb234) (o := .cells #[.int .u64 t231, .int .u64 t232] 24 (0, 0)) (by (with_reducible repeat (first | apply bN | apply bD | apply bA)); exact BK234.out) hb)
                   have n4_ := Aside0.mk (below_step (by repeat (first | (with_reducible first | exact HB.out | apply lA | apply lN | apply lD | refine lS ?_ ‹_›) | exact HB.out)) hb)
                   clear BK211; clear BK212; clear BK230; clear BK234; clear HB; have BK211 := n0_; have BK212 := n1_; have BK230 := n2_; have BK234 := n3_; have HB := n4_; clear n0_ n1_ n2_ n3_ n4_; (try clear hb); (try clear hb2); (try clear hk); (try clear hi)
                   refine hK.out _ _ ⟨(blk_cell BK234.out 0).trans rfl, (blk_cell BK234.out 1).trans rfl, (blk_cell BK211.out 0).trans rfl, (blk_cell BK211.out 1).trans rfl, (blk_cell BK212.out 0).trans rfl, (blk_cell BK212.out 1).trans rfl⟩ (fun hHeld => ?_)
                   clear hK K
                   refine norm_ (a' := ?_) ?_ ?_; rotate_left
                   ·
                    show Act.put _ (some 160) _ = _
                    simp only [Act.put, qT, q0, q1, i64_w, i32_w]; rfl
                   refine pure_ (i := 9) (N := some 161) (v := ?_) (a' := ?_) #[y,y,y,y,y,y,y,y,y,y,z,z,z,z,z,z,z,z,z,z,z,z,z,z,z,z,z,z,z,z,z,z,z,z,z,z,z] rfl rfl (any_of HT_.out (by kernel_rfl)) (fun _ _ _ h => h) (Or.inl ⟨by rfl, ?_⟩) ?_ ?_; rotate_left
                   · intro w'; go_simp; with_reducible rfl
                   rotate_left
                   · simp only [Act.put, qT, q0, q1, i64_w, i32_w]; rfl
                   refine pure_ (i := 10) (N := some 162) (v := undef) (a' := ?_) #[y,y,y,y,y,y,y,y,y,y,y,z,z,z,z,z,z,z,z,z,z,z,z,z,z,z,z,z,z,z,z,z,z,z,z,z,z] rfl rfl (any_of HT_.out (by kernel_rfl)) (fun _ _ _ h => h) (Or.inr ⟨by rfl, rfl⟩) ?_ ?_; rotate_left
                   · simp only [Act.put, qT, q0, q1, i64_w, i32_w]; rfl
                   refine pure_ (i := 11) (N := some 163) (v := undef) (a' := ?_) #[y,y,y,y,y,y,y,y,y,y,y,y,z,z,z,z,z,z,z,z,z,z,z,z,z,z,z,z,z,z,z,z,z,z,z,z,z] rfl rfl (any_of HT_.out (by kernel_rfl)) (fun _ _ _ h => h) (Or.inr ⟨by rfl, rfl⟩) ?_ ?_; rotate_left
                   · simp only [Act.put, qT, q0, q1, i64_w, i32_w]; rfl
                   refine pure_ (i := 12) (N := some 164) (v := undef) (a' := ?_) #[y,y,y,y,y,y,y,y,y,y,y,y,y,z,z,z,z,z,z,z,z,z,z,z,z,z,z,z,z,z,z,z,z,z,z,z,z] rfl rfl (any_of HT_.out (by kernel_rfl)) (fun _ _ _ h => h) (Or.inr ⟨by rfl, rfl⟩) ?_ ?_; rotate_left
                   · simp only [Act.put, qT, q0, q1, i64_w, i32_w]; rfl
                   refine pure_ (i := 13) (N := some 165) (v := ?_) (a' := ?_) #[y,y,y,y,y,y,y,y,y,y,y,y,y,y,z,z,z,z,z,z,z,z,z,z,z,z,z,z,z,z,z,z,z,z,z,z,z] rfl rfl (any_of HT_.out (by kernel_rfl)) (fun _ _ _ h => h) (Or.inl ⟨by rfl, ?_⟩) ?_ ?_; rotate_left
                   · intro w'; go_simp; with_reducible rfl
                   rotate_left
                   · simp only [Act.put, qT, q0, q1, i64_w, i32_w]; rfl
                   refine pure_ (i := 14) (N := some 166) (v := ?_) (a' := ?_) #[y,y,y,y,y,y,y,y,y,y,y,y,y,y,y,z,z,z,z,z,z,z,z,z,z,z,z,z,z,z,z,z,z,z,z,z,z] rfl rfl (any_of HT_.out (by kernel_rfl)) (fun _ _ _ h => h) (Or.inl ⟨by rfl, ?_⟩) ?_ ?_; rotate_left
                   · intro w'; go_simp; with_reducible rfl
                   rotate_left
                   · simp only [Act.put, qT, q0, q1, i64_w, i32_w]; rfl
                   refine pure_ (i := 15) (N := some 167) (v := ?_) (a' := ?_) #[y,y,y,y,y,y,y,y,y,y,y,y,y,y,y,y,z,z,z,z,z,z,z,z,z,z,z,z,z,z,z,z,z,z,z,z,z] rfl rfl (any_of HT_.out (by kernel_rfl)) (fun _ _ _ h => h) (Or.inl ⟨by rfl, ?_⟩) ?_ ?_; rotate_left
                   · intro w'; go_simp; with_reducible rfl
                   rotate_left
                   · simp only [Act.put, qT, q0, q1, i64_w, i32_w]; rfl
                   refine take_ (i := 16) (N := some 168) (v := ?_) (a' := ?_) #[y,y,y,y,y,y,y,y,y,y,y,y,y,y,y,y,y,z,z,z,z,z,z,z,z,z,z,z,z,z,z,z,z,z,z,z,z] rfl rfl (take_ofW HT_.out HW_.out (by kernel_rfl)) (fun _ _ _ h => h) (Or.inl ⟨by rfl, ?_⟩) hHeld ?_ ?_; rotate_left
                   ·
                    rintro w' ⟨s0, s1, s2, s3, s4, s5⟩
                    go_simp; with_reducible rfl
                   rotate_left
                   · simp only [Act.put, qT, q0, q1, i64_w, i32_w]; rfl
                   refine take_ (i := 17) (N := some 169) (v := ?_) (a' := ?_) #[y,y,y,y,y,y,y,y,y,y,y,y,y,y,y,y,y,y,z,z,z,z,z,z,z,z,z,z,z,z,z,z,z,z,z,z,z] rfl rfl (take_ofW HT_.out HW_.out (by kernel_rfl)) (fun _ _ _ h => h) (Or.inl ⟨by rfl, ?_⟩) hHeld ?_ ?_; rotate_left
                   ·
                    rintro w' ⟨s0, s1, s2, s3, s4, s5⟩
                    go_simp; with_reducible rfl
                   rotate_left
                   · simp only [Act.put, qT, q0, q1, i64_w, i32_w]; rfl
                   refine one_ (i := 18) (N := some 170) #[y,y,y,y,y,y,y,y,y,y,y,y,y,y,y,y,y,y,y,z,z,z,z,z,z,z,z,z,z,z,z,z,z,z,z,z,z] rfl rfl (one_of HT_.out (by kernel_rfl)) (by decide) (fun K hK => ?_)
                   refine goes_ Try.func28 (by kernel_rfl) rfl #[.agg #[.int .u64 t231, .int .u64 t232], .agg #[.int .u64 a0_0, .int .u64 a0_1]] (by rfl) rfl rfl (by (try simp only [List.map_toArray, List.map_cons, List.map_nil]); first | done | rfl | (simp only [List.length_drop, List.length_take]; rfl)) ?_
                   with_reducible refine (tnum_In.calls t231 t232 a0_0 a0_1 true _ A266.out).mono ?_
                   rintro e w273 ⟨rfl, hb⟩; refine ⟨_, rfl, ?_⟩
                   have n0_ := Aside0.mk (blk_below (g := gb211) (o := .cells #[.int .u64 a0_0, .int .u64 a0_1] 24 (0, 0)) (by (with_reducible repeat (first | apply bN | apply bD | apply bA)); exact BK211.out) hb)
                   have n1_ := Aside0.mk (blk_below (g := gb212) (o := .cells #[.int .u64 a1_0, .int .u64 a1_1] 24 (0, 0)) (by (with_reducible repeat (first | apply bN | apply bD | apply bA)); exact BK212.out) hb)
                   have n2_ := Aside0.mk (blk_below (g := gb230) (o := .cells #[.int .u64 t228, .int .u64 t229] 24 (0, 0)) (by (with_reducible repeat (first | apply bN | apply bD | apply bA)); exact BK230.out) hb)
                   have n3_ := Aside0.mk (blk_below (g := gb234) (o := .cells #[.int .u64 t231, .int .u64 t232] 24 (0, 0)) (by (with_reducible repeat (first | apply bN | apply bD | apply bA)); exact BK234.out) hb)
                   have n4_ := Aside0.mk (below_step (by repeat (first | (with_reducible first | exact HB.out | apply lA | apply lN | apply lD | refine lS ?_ ‹_›) | exact HB.out)) hb)
                   clear BK211; clear BK212; clear BK230; clear BK234; clear HB; have BK211 := n0_; have BK212 := n1_; have BK230 := n2_; have BK234 := n3_; have HB := n4_; clear n0_ n1_ n2_ n3_ n4_; (try clear hb); (try clear hb2); (try clear hk); (try clear hi)
                   refine hK.out _ _ ⟨(blk_cell BK234.out 0).trans rfl, (blk_cell BK234.out 1).trans rfl, (blk_cell BK211.out 0).trans rfl, (blk_cell BK211.out 1).trans rfl, (blk_cell BK212.out 0).trans rfl, (blk_cell BK212.out 1).trans rfl⟩ (fun hHeld => ?_)
                   clear hK K
                   refine norm_ (a' := ?_) ?_ ?_; rotate_left
                   ·
                    show Act.put _ (some 170) _ = _
                    simp only [Act.put, qT, q0, q1, i64_w, i32_w]; rfl
                   refine pure_ (i := 19) (N := some 171) (v := ?_) (a' := ?_) #[y,y,y,y,y,y,y,y,y,y,y,y,y,y,y,y,y,y,y,y,z,z,z,z,z,z,z,z,z,z,z,z,z,z,z,z,z] rfl rfl (any_of HT_.out (by kernel_rfl)) (fun _ _ _ h => h) (Or.inl ⟨by rfl, ?_⟩) ?_ ?_; rotate_left
                   · intro w'; go_simp; with_reducible rfl
                   rotate_left
                   · simp only [Act.put, qT, q0, q1, i64_w, i32_w]; rfl
                   refine pure_ (i := 20) (N := some 172) (v := ?_) (a' := ?_) #[y,y,y,y,y,y,y,y,y,y,y,y,y,y,y,y,y,y,y,y,y,z,z,z,z,z,z,z,z,z,z,z,z,z,z,z,z] rfl rfl (any_of HT_.out (by kernel_rfl)) (fun _ _ _ h => h) (Or.inl ⟨by rfl, ?_⟩) ?_ ?_; rotate_left
                   · intro w'; go_simp; with_reducible rfl
                   rotate_left
                   · simp only [Act.put, qT, q0, q1, i64_w, i32_w]; rfl
                   refine take_ (i := 21) (N := some 173) (v := ?_) (a' := ?_) #[y,y,y,y,y,y,y,y,y,y,y,y,y,y,y,y,y,y,y,y,y,y,z,z,z,z,z,z,z,z,z,z,z,z,z,z,z] rfl rfl (take_ofW HT_.out HW_.out (by kernel_rfl)) (fun _ _ _ h => h) (Or.inl ⟨by rfl, ?_⟩) hHeld ?_ ?_; rotate_left
                   ·
                    rintro w' ⟨s0, s1, s2, s3, s4, s5⟩
                    go_simp; with_reducible rfl
                   rotate_left
                   · simp only [Act.put, qT, q0, q1, i64_w, i32_w]; rfl
                   refine take_ (i := 22) (N := some 174) (v := ?_) (a' := ?_) #[y,y,y,y,y,y,y,y,y,y,y,y,y,y,y,y,y,y,y,y,y,y,y,z,z,z,z,z,z,z,z,z,z,z,z,z,z] rfl rfl (take_ofW HT_.out HW_.out (by kernel_rfl)) (fun _ _ _ h => h) (Or.inl ⟨by rfl, ?_⟩) hHeld ?_ ?_; rotate_left
                   ·
                    rintro w' ⟨s0, s1, s2, s3, s4, s5⟩
                    go_simp; with_reducible rfl
                   rotate_left
                   · simp only [Act.put, qT, q0, q1, i64_w, i32_w]; rfl
                   refine one_ (i := 23) (N := some 175) #[y,y,y,y,y,y,y,y,y,y,y,y,y,y,y,y,y,y,y,y,y,y,y,y,z,z,z,z,z,z,z,z,z,z,z,z,z] rfl rfl (one_of HT_.out (by kernel_rfl)) (by decide) (fun K hK => ?_)
                   refine goes_ Try.func28 (by kernel_rfl) rfl #[.agg #[.int .u64 t231, .int .u64 t232], .agg #[.int .u64 a1_0, .int .u64 a1_1]] (by rfl) rfl rfl (by (try simp only [List.map_toArray, List.map_cons, List.map_nil]); first | done | rfl | (simp only [List.length_drop, List.length_take]; rfl)) ?_
                   with_reducible refine (tnum_In.calls t231 t232 a1_0 a1_1 true _ A268.out).mono ?_
                   rintro e w274 ⟨rfl, hb⟩; refine ⟨_, rfl, ?_⟩
                   have n0_ := Aside0.mk (blk_below (g := gb211) (o := .cells #[.int .u64 a0_0, .int .u64 a0_1] 24 (0, 0)) (by (with_reducible repeat (first | apply bN | apply bD | apply bA)); exact BK211.out) hb)
                   have n1_ := Aside0.mk (blk_below (g := gb212) (o := .cells #[.int .u64 a1_0, .int .u64 a1_1] 24 (0, 0)) (by (with_reducible repeat (first | apply bN | apply bD | apply bA)); exact BK212.out) hb)
                   have n2_ := Aside0.mk (blk_below (g := gb230) (o := .cells #[.int .u64 t228, .int .u64 t229] 24 (0, 0)) (by (with_reducible repeat (first | apply bN | apply bD | apply bA)); exact BK230.out) hb)
                   have n3_ := Aside0.mk (blk_below (g := gb234) (o := .cells #[.int .u64 t231, .int .u64 t232] 24 (0, 0)) (by (with_reducible repeat (first | apply bN | apply bD | apply bA)); exact BK234.out) hb)
                   have n4_ := Aside0.mk (below_step (by repeat (first | (with_reducible first | exact HB.out | apply lA | apply lN | apply lD | refine lS ?_ ‹_›) | exact HB.out)) hb)
                   clear BK211; clear BK212; clear BK230; clear BK234; clear HB; have BK211 := n0_; have BK212 := n1_; have BK230 := n2_; have BK234 := n3_; have HB := n4_; clear n0_ n1_ n2_ n3_ n4_; (try clear hb); (try clear hb2); (try clear hk); (try clear hi)
                   refine hK.out _ _ ⟨(blk_cell BK234.out 0).trans rfl, (blk_cell BK234.out 1).trans rfl, (blk_cell BK211.out 0).trans rfl, (blk_cell BK211.out 1).trans rfl, (blk_cell BK212.out 0).trans rfl, (blk_cell BK212.out 1).trans rfl⟩ (fun hHeld => ?_)
                   clear hK K
                   refine norm_ (a' := ?_) ?_ ?_; rotate_left
                   ·
                    show Act.put _ (some 175) _ = _
                    simp only [Act.put, qT, q0, q1, i64_w, i32_w]; rfl
                   refine pure_ (i := 24) (N := some 176) (v := ?_) (a' := ?_) #[y,y,y,y,y,y,y,y,y,y,y,y,y,y,y,y,y,y,y,y,y,y,y,y,y,z,z,z,z,z,z,z,z,z,z,z,z] rfl rfl (any_of HT_.out (by kernel_rfl)) (fun _ _ _ h => h) (Or.inl ⟨by rfl, ?_⟩) ?_ ?_; rotate_left
                   · intro w'; go_simp; with_reducible rfl
                   rotate_left
                   · simp only [Act.put, qT, q0, q1, i64_w, i32_w]; rfl
                   refine pure_ (i := 25) (N := some 177) (v := ?_) (a' := ?_) #[y,y,y,y,y,y,y,y,y,y,y,y,y,y,y,y,y,y,y,y,y,y,y,y,y,y,z,z,z,z,z,z,z,z,z,z,z] rfl rfl (any_of HT_.out (by kernel_rfl)) (fun _ _ _ h => h) (Or.inl ⟨by rfl, ?_⟩) ?_ ?_; rotate_left
                   · intro w'; go_simp; with_reducible rfl
                   rotate_left
                   · simp only [Act.put, qT, q0, q1, i64_w, i32_w]; rfl
                   refine pure_ (i := 26) (N := some 178) (v := ?_) (a' := ?_) #[y,y,y,y,y,y,y,y,y,y,y,y,y,y,y,y,y,y,y,y,y,y,y,y,y,y,y,z,z,z,z,z,z,z,z,z,z] rfl rfl (any_of HT_.out (by kernel_rfl)) (fun _ _ _ h => h) (Or.inl ⟨by rfl, ?_⟩) ?_ ?_; rotate_left
                   · intro w'; go_simp; with_reducible rfl
                   rotate_left
                   · simp only [Act.put, qT, q0, q1, i64_w, i32_w]; rfl
                   refine pure_ (i := 28) (N := some 180) (v := ?_) (a' := ?_) #[y,y,y,y,y,y,y,y,y,y,y,y,y,y,y,y,y,y,y,y,y,y,y,y,y,y,y,z,y,z,z,z,z,z,z,z,z] rfl rfl (any_of HT_.out (by kernel_rfl)) (fun _ _ _ h => h) (Or.inl ⟨by rfl, ?_⟩) ?_ ?_; rotate_left
                   · intro w'; go_simp; with_reducible rfl
                   rotate_left
                   · simp only [Act.put, qT, q0, q1, i64_w, i32_w]; rfl
                   refine pure_ (i := 30) (N := some 182) (v := ?_) (a' := ?_) #[y,y,y,y,y,y,y,y,y,y,y,y,y,y,y,y,y,y,y,y,y,y,y,y,y,y,y,z,y,z,y,z,z,z,z,z,z] rfl rfl (any_of HT_.out (by kernel_rfl)) (fun _ _ _ h => h) (Or.inl ⟨by rfl, ?_⟩) ?_ ?_; rotate_left
                   · intro w'; go_simp; with_reducible rfl
                   rotate_left
                   · simp only [Act.put, qT, q0, q1, i64_w, i32_w]; rfl
                   refine take_ (i := 27) (N := some 179) (v := ?_) (a' := ?_) #[y,y,y,y,y,y,y,y,y,y,y,y,y,y,y,y,y,y,y,y,y,y,y,y,y,y,y,y,y,z,y,z,z,z,z,z,z] rfl rfl (take_ofW HT_.out HW_.out (by kernel_rfl)) (fun _ _ _ h => h) (Or.inl ⟨by rfl, ?_⟩) hHeld ?_ ?_; rotate_left
                   ·
                    rintro w' ⟨s0, s1, s2, s3, s4, s5⟩
                    go_simp; with_reducible rfl
                   rotate_left
                   · simp only [Act.put, qT, q0, q1, i64_w, i32_w]; rfl
                   refine take_ (i := 29) (N := some 181) (v := ?_) (a' := ?_) #[y,y,y,y,y,y,y,y,y,y,y,y,y,y,y,y,y,y,y,y,y,y,y,y,y,y,y,y,y,y,y,z,z,z,z,z,z] rfl rfl (take_ofW HT_.out HW_.out (by kernel_rfl)) (fun _ _ _ h => h) (Or.inl ⟨by rfl, ?_⟩) hHeld ?_ ?_; rotate_left
                   ·
                    rintro w' ⟨s0, s1, s2, s3, s4, s5⟩
                    go_simp; with_reducible rfl
                   rotate_left
                   · simp only [Act.put, qT, q0, q1, i64_w, i32_w]; rfl
                   refine take_ (i := 31) (N := some 183) (v := ?_) (a' := ?_) #[y,y,y,y,y,y,y,y,y,y,y,y,y,y,y,y,y,y,y,y,y,y,y,y,y,y,y,y,y,y,y,y,z,z,z,z,z] rfl rfl (take_ofW HT_.out HW_.out (by kernel_rfl)) (fun _ _ _ h => h) (Or.inl ⟨by rfl, ?_⟩) hHeld ?_ ?_; rotate_left
                   ·
                    rintro w' ⟨s0, s1, s2, s3, s4, s5⟩
                    go_simp; with_reducible rfl
                   rotate_left
                   · simp only [Act.put, qT, q0, q1, i64_w, i32_w]; rfl
                   refine pure_ (i := 32) (N := some 184) (v := ?_) (a' := ?_) #[y,y,y,y,y,y,y,y,y,y,y,y,y,y,y,y,y,y,y,y,y,y,y,y,y,y,y,y,y,y,y,y,y,z,z,z,z] rfl rfl (any_of HT_.out (by kernel_rfl)) (fun _ _ _ h => h) (Or.inl ⟨by rfl, ?_⟩) ?_ ?_; rotate_left
                   · intro w'; go_simp; with_reducible rfl
                   rotate_left
                   · simp only [Act.put, qT, q0, q1, i64_w, i32_w]; rfl
                   refine pure_ (i := 33) (N := some 185) (v := ?_) (a' := ?_) #[y,y,y,y,y,y,y,y,y,y,y,y,y,y,y,y,y,y,y,y,y,y,y,y,y,y,y,y,y,y,y,y,y,y,z,z,z] rfl rfl (any_of HT_.out (by kernel_rfl)) (fun _ _ _ h => h) (Or.inl ⟨by rfl, ?_⟩) ?_ ?_; rotate_left
                   · intro w'; go_simp; with_reducible rfl
                   rotate_left
                   · simp only [Act.put, qT, q0, q1, i64_w, i32_w]; rfl
                   refine pure_ (i := 34) (N := some 186) (v := ?_) (a' := ?_) #[y,y,y,y,y,y,y,y,y,y,y,y,y,y,y,y,y,y,y,y,y,y,y,y,y,y,y,y,y,y,y,y,y,y,y,z,z] rfl rfl (any_of HT_.out (by kernel_rfl)) (fun _ _ _ h => h) (Or.inl ⟨by rfl, ?_⟩) ?_ ?_; rotate_left
                   · intro w'; go_simp; with_reducible rfl
                   rotate_left
                   · simp only [Act.put, qT, q0, q1, i64_w, i32_w]; rfl
                   refine pure_ (i := 35) (N := some 187) (v := ?_) (a' := ?_) #[y,y,y,y,y,y,y,y,y,y,y,y,y,y,y,y,y,y,y,y,y,y,y,y,y,y,y,y,y,y,y,y,y,y,y,y,z] rfl rfl (any_of HT_.out (by kernel_rfl)) (fun _ _ _ h => h) (Or.inl ⟨by rfl, ?_⟩) ?_ ?_; rotate_left
                   · intro w'; go_simp; with_reducible rfl
                   rotate_left
                   · simp only [Act.put, qT, q0, q1, i64_w, i32_w]; rfl
                   refine pure_ (i := 36) (N := some 6) (v := ?_) (a' := ?_) #[y,y,y,y,y,y,y,y,y,y,y,y,y,y,y,y,y,y,y,y,y,y,y,y,y,y,y,y,y,y,y,y,y,y,y,y,y] rfl rfl (any_of HT_.out (by kernel_rfl)) (fun _ _ _ h => h) (Or.inl ⟨by rfl, ?_⟩) ?_ ?_; rotate_left
                   · intro w'; go_simp; with_reducible rfl
                   rotate_left
                   · simp only [Act.put, qT, q0, q1, i64_w, i32_w]; rfl
                   refine done_ (done_of HT_.out (by kernel_rfl)) ?_
                   try go_wp2
                   go_ret
                   exact ⟨by first | rfl | (simp [errW_none, errW_some] <;> rfl) | (simp [*, errW_none, errW_some] <;> rfl), by repeat (first | (with_reducible first | exact HB.out | apply lA | apply lN | apply lD | refine lS ?_ ‹_›) | exact HB.out)⟩
                  ·
                   replace c269 := Bool.eq_false_iff.mpr c269
                   subst c269
                   have H1 : (some false) = some r := by rw [if_neg (show ¬ (false = true) by decide)] at H; exact H
                   clear H; have H := H1; clear H1
                   exact absurd (H.trans (congrArg some hr_.out)) (by simp)
                 ·
                  replace c267 := Bool.eq_false_iff.mpr c267
                  subst c267
                  have H1 : (some false) = some r := by rw [if_neg (show ¬ (false = true) by decide)] at H; exact H
                  clear H; have H := H1; clear H1
                  exact absurd (H.trans (congrArg some hr_.out)) (by simp)
                ·
                 rw [if_neg c265] at H
                 have c265b0 : (t253 == false) = false := by simpa using c265
                 (try (have c265b1 : decide (t253 = false) = false := by simpa using c265)); (try (have c265b2 : (t253 == false) = false := by simpa using c265)); (try (have c265b3 : ¬ (t253 = false) := by simpa using c265)); clear c265
                 exact absurd (H.trans (congrArg some hr_.out)) (by simp)
              ·
               replace c249 := Bool.eq_false_iff.mpr c249
               subst c249
               have H1 : (some true) = some r := by rw [if_neg (show ¬ (false = true) by decide)] at H; exact H
               clear H; have H := H1; clear H1
               obtain rfl := Option.some.inj H
               try go_wp2
               have n0_ := Aside0.mk (blk_drew BK211.out); have n1_ := Aside0.mk (blk_drew BK212.out); have n2_ := Aside0.mk (blk_drew BK230.out); have n3_ := Aside0.mk (blk_drew BK234.out)
               have n4_ := Aside0.mk (below_drew1 HB.out)
               clear BK211; clear BK212; clear BK230; clear BK234; clear HB; have BK211 := n0_; have BK212 := n1_; have BK230 := n2_; have BK234 := n3_; have HB := n4_; clear n0_ n1_ n2_ n3_ n4_
               refine start_ (n := 37) (S := fun w' => True) (ds := []) #[z,z,z,z,z,z,z,z,z,z,z,z,z,z,z,z,z,z,z,z,z,z,z,z,z,z,z,z,z,z,z,z,z,z,z,z,z] (by kernel_rfl) rfl rfl trivial (fun hHeld => ?_); refine with_tabW posternlaw14_TnumSets.tab16 posternlaw14_TnumSets.bits16 (fun HT_ HW_ => ?_)
               generalize wc.drew = w275 at BK211 BK212 BK230 BK234 HB hHeld ⊢
               refine pure_ (i := 0) (N := some 152) (v := ?_) (a' := ?_) #[y,z,z,z,z,z,z,z,z,z,z,z,z,z,z,z,z,z,z,z,z,z,z,z,z,z,z,z,z,z,z,z,z,z,z,z,z] rfl rfl (any_of HT_.out (by kernel_rfl)) (fun _ _ _ h => h) (Or.inl ⟨by rfl, ?_⟩) ?_ ?_; rotate_left
               · intro w'; go_simp; with_reducible rfl
               rotate_left
               · simp only [Act.put, qT, q0, q1, i64_w, i32_w]; rfl
               refine pure_ (i := 1) (N := some 153) (v := ?_) (a' := ?_) #[y,y,z,z,z,z,z,z,z,z,z,z,z,z,z,z,z,z,z,z,z,z,z,z,z,z,z,z,z,z,z,z,z,z,z,z,z] rfl rfl (any_of HT_.out (by kernel_rfl)) (fun _ _ _ h => h) (Or.inl ⟨by rfl, ?_⟩) ?_ ?_; rotate_left
               · intro w'; go_simp; with_reducible rfl
               rotate_left
               · simp only [Act.put, qT, q0, q1, i64_w, i32_w]; rfl
               refine pure_ (i := 2) (N := some 154) (v := ?_) (a' := ?_) #[y,y,y,z,z,z,z,z,z,z,z,z,z,z,z,z,z,z,z,z,z,z,z,z,z,z,z,z,z,z,z,z,z,z,z,z,z] rfl rfl (any_of HT_.out (by kernel_rfl)) (fun _ _ _ h => h) (Or.inl ⟨by rfl, ?_⟩) ?_ ?_; rotate_left
               · intro w'; go_simp; with_reducible rfl
               rotate_left
               · simp only [Act.put, qT, q0, q1, i64_w, i32_w]; rfl
               refine pure_ (i := 3) (N := some 155) (v := undef) (a' := ?_) #[y,y,y,y,z,z,z,z,z,z,z,z,z,z,z,z,z,z,z,z,z,z,z,z,z,z,z,z,z,z,z,z,z,z,z,z,z] rfl rfl (any_of HT_.out (by kernel_rfl)) (fun _ _ _ h => h) (Or.inr ⟨by rfl, rfl⟩) ?_ ?_; rotate_left
               · simp only [Act.put, qT, q0, q1, i64_w, i32_w]; rfl
               refine pure_ (i := 4) (N := some 156) (v := undef) (a' := ?_) #[y,y,y,y,y,z,z,z,z,z,z,z,z,z,z,z,z,z,z,z,z,z,z,z,z,z,z,z,z,z,z,z,z,z,z,z,z] rfl rfl (any_of HT_.out (by kernel_rfl)) (fun _ _ _ h => h) (Or.inr ⟨by rfl, rfl⟩) ?_ ?_; rotate_left
               · simp only [Act.put, qT, q0, q1, i64_w, i32_w]; rfl
               refine pure_ (i := 5) (N := some 157) (v := undef) (a' := ?_) #[y,y,y,y,y,y,z,z,z,z,z,z,z,z,z,z,z,z,z,z,z,z,z,z,z,z,z,z,z,z,z,z,z,z,z,z,z] rfl rfl (any_of HT_.out (by kernel_rfl)) (fun _ _ _ h => h) (Or.inr ⟨by rfl, rfl⟩) ?_ ?_; rotate_left
               · simp only [Act.put, qT, q0, q1, i64_w, i32_w]; rfl
               refine pure_ (i := 6) (N := some 158) (v := undef) (a' := ?_) #[y,y,y,y,y,y,y,z,z,z,z,z,z,z,z,z,z,z,z,z,z,z,z,z,z,z,z,z,z,z,z,z,z,z,z,z,z] rfl rfl (any_of HT_.out (by kernel_rfl)) (fun _ _ _ h => h) (Or.inr ⟨by rfl, rfl⟩) ?_ ?_; rotate_left
               · simp only [Act.put, qT, q0, q1, i64_w, i32_w]; rfl
               refine pure_ (i := 7) (N := some 159) (v := undef) (a' := ?_) #[y,y,y,y,y,y,y,y,z,z,z,z,z,z,z,z,z,z,z,z,z,z,z,z,z,z,z,z,z,z,z,z,z,z,z,z,z] rfl rfl (any_of HT_.out (by kernel_rfl)) (fun _ _ _ h => h) (Or.inr ⟨by rfl, rfl⟩) ?_ ?_; rotate_left
               · simp only [Act.put, qT, q0, q1, i64_w, i32_w]; rfl
               refine pure_ (i := 8) (N := some 160) (v := undef) (a' := ?_) #[y,y,y,y,y,y,y,y,y,z,z,z,z,z,z,z,z,z,z,z,z,z,z,z,z,z,z,z,z,z,z,z,z,z,z,z,z] rfl rfl (any_of HT_.out (by kernel_rfl)) (fun _ _ _ h => h) (Or.inr ⟨by rfl, rfl⟩) ?_ ?_; rotate_left
               · simp only [Act.put, qT, q0, q1, i64_w, i32_w]; rfl
               refine pure_ (i := 9) (N := some 161) (v := undef) (a' := ?_) #[y,y,y,y,y,y,y,y,y,y,z,z,z,z,z,z,z,z,z,z,z,z,z,z,z,z,z,z,z,z,z,z,z,z,z,z,z] rfl rfl (any_of HT_.out (by kernel_rfl)) (fun _ _ _ h => h) (Or.inr ⟨by rfl, rfl⟩) ?_ ?_; rotate_left
               · simp only [Act.put, qT, q0, q1, i64_w, i32_w]; rfl
               refine pure_ (i := 10) (N := some 162) (v := undef) (a' := ?_) #[y,y,y,y,y,y,y,y,y,y,y,z,z,z,z,z,z,z,z,z,z,z,z,z,z,z,z,z,z,z,z,z,z,z,z,z,z] rfl rfl (any_of HT_.out (by kernel_rfl)) (fun _ _ _ h => h) (Or.inr ⟨by rfl, rfl⟩) ?_ ?_; rotate_left
               · simp only [Act.put, qT, q0, q1, i64_w, i32_w]; rfl
               refine pure_ (i := 11) (N := some 163) (v := undef) (a' := ?_) #[y,y,y,y,y,y,y,y,y,y,y,y,z,z,z,z,z,z,z,z,z,z,z,z,z,z,z,z,z,z,z,z,z,z,z,z,z] rfl rfl (any_of HT_.out (by kernel_rfl)) (fun _ _ _ h => h) (Or.inr ⟨by rfl, rfl⟩) ?_ ?_; rotate_left
               · simp only [Act.put, qT, q0, q1, i64_w, i32_w]; rfl
               refine pure_ (i := 12) (N := some 164) (v := undef) (a' := ?_) #[y,y,y,y,y,y,y,y,y,y,y,y,y,z,z,z,z,z,z,z,z,z,z,z,z,z,z,z,z,z,z,z,z,z,z,z,z] rfl rfl (any_of HT_.out (by kernel_rfl)) (fun _ _ _ h => h) (Or.inr ⟨by rfl, rfl⟩) ?_ ?_; rotate_left
               · simp only [Act.put, qT, q0, q1, i64_w, i32_w]; rfl
               refine pure_ (i := 13) (N := some 165) (v := undef) (a' := ?_) #[y,y,y,y,y,y,y,y,y,y,y,y,y,y,z,z,z,z,z,z,z,z,z,z,z,z,z,z,z,z,z,z,z,z,z,z,z] rfl rfl (any_of HT_.out (by kernel_rfl)) (fun _ _ _ h => h) (Or.inr ⟨by rfl, rfl⟩) ?_ ?_; rotate_left
               · simp only [Act.put, qT, q0, q1, i64_w, i32_w]; rfl
               refine pure_ (i := 14) (N := some 166) (v := undef) (a' := ?_) #[y,y,y,y,y,y,y,y,y,y,y,y,y,y,y,z,z,z,z,z,z,z,z,z,z,z,z,z,z,z,z,z,z,z,z,z,z] rfl rfl (any_of HT_.out (by kernel_rfl)) (fun _ _ _ h => h) (Or.inr ⟨by rfl, rfl⟩) ?_ ?_; rotate_left
               · simp only [Act.put, qT, q0, q1, i64_w, i32_w]; rfl
               refine pure_ (i := 15) (N := some 167) (v := undef) (a' := ?_) #[y,y,y,y,y,y,y,y,y,y,y,y,y,y,y,y,z,z,z,z,z,z,z,z,z,z,z,z,z,z,z,z,z,z,z,z,z] rfl rfl (any_of HT_.out (by kernel_rfl)) (fun _ _ _ h => h) (Or.inr ⟨by rfl, rfl⟩) ?_ ?_; rotate_left
               · simp only [Act.put, qT, q0, q1, i64_w, i32_w]; rfl
               refine pure_ (i := 16) (N := some 168) (v := undef) (a' := ?_) #[y,y,y,y,y,y,y,y,y,y,y,y,y,y,y,y,y,z,z,z,z,z,z,z,z,z,z,z,z,z,z,z,z,z,z,z,z] rfl rfl (any_of HT_.out (by kernel_rfl)) (fun _ _ _ h => h) (Or.inr ⟨by rfl, rfl⟩) ?_ ?_; rotate_left
               · simp only [Act.put, qT, q0, q1, i64_w, i32_w]; rfl
               refine pure_ (i := 17) (N := some 169) (v := undef) (a' := ?_) #[y,y,y,y,y,y,y,y,y,y,y,y,y,y,y,y,y,y,z,z,z,z,z,z,z,z,z,z,z,z,z,z,z,z,z,z,z] rfl rfl (any_of HT_.out (by kernel_rfl)) (fun _ _ _ h => h) (Or.inr ⟨by rfl, rfl⟩) ?_ ?_; rotate_left
               · simp only [Act.put, qT, q0, q1, i64_w, i32_w]; rfl
               refine pure_ (i := 18) (N := some 170) (v := undef) (a' := ?_) #[y,y,y,y,y,y,y,y,y,y,y,y,y,y,y,y,y,y,y,z,z,z,z,z,z,z,z,z,z,z,z,z,z,z,z,z,z] rfl rfl (any_of HT_.out (by kernel_rfl)) (fun _ _ _ h => h) (Or.inr ⟨by rfl, rfl⟩) ?_ ?_; rotate_left
               · simp only [Act.put, qT, q0, q1, i64_w, i32_w]; rfl
               refine pure_ (i := 19) (N := some 171) (v := undef) (a' := ?_) #[y,y,y,y,y,y,y,y,y,y,y,y,y,y,y,y,y,y,y,y,z,z,z,z,z,z,z,z,z,z,z,z,z,z,z,z,z] rfl rfl (any_of HT_.out (by kernel_rfl)) (fun _ _ _ h => h) (Or.inr ⟨by rfl, rfl⟩) ?_ ?_; rotate_left
               · simp only [Act.put, qT, q0, q1, i64_w, i32_w]; rfl
               refine pure_ (i := 20) (N := some 172) (v := undef) (a' := ?_) #[y,y,y,y,y,y,y,y,y,y,y,y,y,y,y,y,y,y,y,y,y,z,z,z,z,z,z,z,z,z,z,z,z,z,z,z,z] rfl rfl (any_of HT_.out (by kernel_rfl)) (fun _ _ _ h => h) (Or.inr ⟨by rfl, rfl⟩) ?_ ?_; rotate_left
               · simp only [Act.put, qT, q0, q1, i64_w, i32_w]; rfl
               refine pure_ (i := 21) (N := some 173) (v := undef) (a' := ?_) #[y,y,y,y,y,y,y,y,y,y,y,y,y,y,y,y,y,y,y,y,y,y,z,z,z,z,z,z,z,z,z,z,z,z,z,z,z] rfl rfl (any_of HT_.out (by kernel_rfl)) (fun _ _ _ h => h) (Or.inr ⟨by rfl, rfl⟩) ?_ ?_; rotate_left
               · simp only [Act.put, qT, q0, q1, i64_w, i32_w]; rfl
               refine pure_ (i := 22) (N := some 174) (v := undef) (a' := ?_) #[y,y,y,y,y,y,y,y,y,y,y,y,y,y,y,y,y,y,y,y,y,y,y,z,z,z,z,z,z,z,z,z,z,z,z,z,z] rfl rfl (any_of HT_.out (by kernel_rfl)) (fun _ _ _ h => h) (Or.inr ⟨by rfl, rfl⟩) ?_ ?_; rotate_left
               · simp only [Act.put, qT, q0, q1, i64_w, i32_w]; rfl
               refine pure_ (i := 23) (N := some 175) (v := undef) (a' := ?_) #[y,y,y,y,y,y,y,y,y,y,y,y,y,y,y,y,y,y,y,y,y,y,y,y,z,z,z,z,z,z,z,z,z,z,z,z,z] rfl rfl (any_of HT_.out (by kernel_rfl)) (fun _ _ _ h => h) (Or.inr ⟨by rfl, rfl⟩) ?_ ?_; rotate_left
               · simp only [Act.put, qT, q0, q1, i64_w, i32_w]; rfl
               refine pure_ (i := 24) (N := some 176) (v := undef) (a' := ?_) #[y,y,y,y,y,y,y,y,y,y,y,y,y,y,y,y,y,y,y,y,y,y,y,y,y,z,z,z,z,z,z,z,z,z,z,z,z] rfl rfl (any_of HT_.out (by kernel_rfl)) (fun _ _ _ h => h) (Or.inr ⟨by rfl, rfl⟩) ?_ ?_; rotate_left
               · simp only [Act.put, qT, q0, q1, i64_w, i32_w]; rfl
               refine pure_ (i := 25) (N := some 177) (v := undef) (a' := ?_) #[y,y,y,y,y,y,y,y,y,y,y,y,y,y,y,y,y,y,y,y,y,y,y,y,y,y,z,z,z,z,z,z,z,z,z,z,z] rfl rfl (any_of HT_.out (by kernel_rfl)) (fun _ _ _ h => h) (Or.inr ⟨by rfl, rfl⟩) ?_ ?_; rotate_left
               · simp only [Act.put, qT, q0, q1, i64_w, i32_w]; rfl
               refine pure_ (i := 26) (N := some 178) (v := undef) (a' := ?_) #[y,y,y,y,y,y,y,y,y,y,y,y,y,y,y,y,y,y,y,y,y,y,y,y,y,y,y,z,z,z,z,z,z,z,z,z,z] rfl rfl (any_of HT_.out (by kernel_rfl)) (fun _ _ _ h => h) (Or.inr ⟨by rfl, rfl⟩) ?_ ?_; rotate_left
               · simp only [Act.put, qT, q0, q1, i64_w, i32_w]; rfl
               refine pure_ (i := 27) (N := some 179) (v := undef) (a' := ?_) #[y,y,y,y,y,y,y,y,y,y,y,y,y,y,y,y,y,y,y,y,y,y,y,y,y,y,y,y,z,z,z,z,z,z,z,z,z] rfl rfl (any_of HT_.out (by kernel_rfl)) (fun _ _ _ h => h) (Or.inr ⟨by rfl, rfl⟩) ?_ ?_; rotate_left
               · simp only [Act.put, qT, q0, q1, i64_w, i32_w]; rfl
               refine pure_ (i := 28) (N := some 180) (v := undef) (a' := ?_) #[y,y,y,y,y,y,y,y,y,y,y,y,y,y,y,y,y,y,y,y,y,y,y,y,y,y,y,y,y,z,z,z,z,z,z,z,z] rfl rfl (any_of HT_.out (by kernel_rfl)) (fun _ _ _ h => h) (Or.inr ⟨by rfl, rfl⟩) ?_ ?_; rotate_left
               · simp only [Act.put, qT, q0, q1, i64_w, i32_w]; rfl
               refine pure_ (i := 29) (N := some 181) (v := undef) (a' := ?_) #[y,y,y,y,y,y,y,y,y,y,y,y,y,y,y,y,y,y,y,y,y,y,y,y,y,y,y,y,y,y,z,z,z,z,z,z,z] rfl rfl (any_of HT_.out (by kernel_rfl)) (fun _ _ _ h => h) (Or.inr ⟨by rfl, rfl⟩) ?_ ?_; rotate_left
               · simp only [Act.put, qT, q0, q1, i64_w, i32_w]; rfl
               refine pure_ (i := 30) (N := some 182) (v := undef) (a' := ?_) #[y,y,y,y,y,y,y,y,y,y,y,y,y,y,y,y,y,y,y,y,y,y,y,y,y,y,y,y,y,y,y,z,z,z,z,z,z] rfl rfl (any_of HT_.out (by kernel_rfl)) (fun _ _ _ h => h) (Or.inr ⟨by rfl, rfl⟩) ?_ ?_; rotate_left
               · simp only [Act.put, qT, q0, q1, i64_w, i32_w]; rfl
               refine pure_ (i := 31) (N := some 183) (v := undef) (a' := ?_) #[y,y,y,y,y,y,y,y,y,y,y,y,y,y,y,y,y,y,y,y,y,y,y,y,y,y,y,y,y,y,y,y,z,z,z,z,z] rfl rfl (any_of HT_.out (by kernel_rfl)) (fun _ _ _ h => h) (Or.inr ⟨by rfl, rfl⟩) ?_ ?_; rotate_left
               · simp only [Act.put, qT, q0, q1, i64_w, i32_w]; rfl
               refine pure_ (i := 32) (N := some 184) (v := undef) (a' := ?_) #[y,y,y,y,y,y,y,y,y,y,y,y,y,y,y,y,y,y,y,y,y,y,y,y,y,y,y,y,y,y,y,y,y,z,z,z,z] rfl rfl (any_of HT_.out (by kernel_rfl)) (fun _ _ _ h => h) (Or.inr ⟨by rfl, rfl⟩) ?_ ?_; rotate_left
               · simp only [Act.put, qT, q0, q1, i64_w, i32_w]; rfl
               refine pure_ (i := 33) (N := some 185) (v := undef) (a' := ?_) #[y,y,y,y,y,y,y,y,y,y,y,y,y,y,y,y,y,y,y,y,y,y,y,y,y,y,y,y,y,y,y,y,y,y,z,z,z] rfl rfl (any_of HT_.out (by kernel_rfl)) (fun _ _ _ h => h) (Or.inr ⟨by rfl, rfl⟩) ?_ ?_; rotate_left
               · simp only [Act.put, qT, q0, q1, i64_w, i32_w]; rfl
               refine pure_ (i := 34) (N := some 186) (v := undef) (a' := ?_) #[y,y,y,y,y,y,y,y,y,y,y,y,y,y,y,y,y,y,y,y,y,y,y,y,y,y,y,y,y,y,y,y,y,y,y,z,z] rfl rfl (any_of HT_.out (by kernel_rfl)) (fun _ _ _ h => h) (Or.inr ⟨by rfl, rfl⟩) ?_ ?_; rotate_left
               · simp only [Act.put, qT, q0, q1, i64_w, i32_w]; rfl
               refine pure_ (i := 35) (N := some 187) (v := ?_) (a' := ?_) #[y,y,y,y,y,y,y,y,y,y,y,y,y,y,y,y,y,y,y,y,y,y,y,y,y,y,y,y,y,y,y,y,y,y,y,y,z] rfl rfl (any_of HT_.out (by kernel_rfl)) (fun _ _ _ h => h) (Or.inl ⟨by rfl, ?_⟩) ?_ ?_; rotate_left
               · intro w'; go_simp; with_reducible rfl
               rotate_left
               · simp only [Act.put, qT, q0, q1, i64_w, i32_w]; rfl
               refine pure_ (i := 36) (N := some 6) (v := ?_) (a' := ?_) #[y,y,y,y,y,y,y,y,y,y,y,y,y,y,y,y,y,y,y,y,y,y,y,y,y,y,y,y,y,y,y,y,y,y,y,y,y] rfl rfl (any_of HT_.out (by kernel_rfl)) (fun _ _ _ h => h) (Or.inl ⟨by rfl, ?_⟩) ?_ ?_; rotate_left
               · intro w'; go_simp; with_reducible rfl
               rotate_left
               · simp only [Act.put, qT, q0, q1, i64_w, i32_w]; rfl
               refine done_ (done_of HT_.out (by kernel_rfl)) ?_
               try go_wp2
               go_ret
               exact ⟨by first | rfl | (simp [errW_none, errW_some] <;> rfl) | (simp [*, errW_none, errW_some] <;> rfl), by repeat (first | (with_reducible first | exact HB.out | apply lA | apply lN | apply lD | refine lS ?_ ‹_›) | exact HB.out)⟩
 ·
  replace c5 := Bool.eq_false_iff.mpr c5
  subst c5
  have H1 : (some false) = some r := by rw [if_neg (show ¬ (false = true) by decide)] at H; exact H
  clear H; have H := H1; clear H1
  exact absurd (H.trans (congrArg some hr_.out)) (by simp)
end Go.Proofs.Ytladlljnpmpdpaa.PTnumSets
