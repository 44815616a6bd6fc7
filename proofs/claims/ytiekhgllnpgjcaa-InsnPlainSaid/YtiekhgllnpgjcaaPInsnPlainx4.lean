-- Written by a program of this session (a variant of the print), for this claim. Lean checks it.
import Derived.Test.YtiekhgllnpgjcaaPInsnPlainx0
import Derived.Test.YtiekhgllnpgjcaaPInsnPlainx2
import Derived.Test.YtiekhgllnpgjcaaPInsnPlainx3
namespace Go.Proofs.Ytiekhgllnpgjcaa.PInsnPlain
open Go.RowKit Go.Proofs.YtiekhgllnpgjcaaW.PrintWords Go.Proofs.YtiekhgllnpgjcaaW.PrintLast Go.Proofs.YtiekhgllnpgjcaaW.PrintMore
attribute [local go_sem] max2_int min2_int max_two min_two max_three min_three max_four min_four   -- for this text's walks alone
attribute [local go_sem high] Go.Proofs.Ytiekhgllnpgjcaa.NotLaw.not_u64 Go.Proofs.Ytiekhgllnpgjcaa.NotLaw.not_u32 Go.Proofs.Ytiekhgllnpgjcaa.NotLaw.not_u16 Go.Proofs.Ytiekhgllnpgjcaa.NotLaw.not_u8
set_option linter.unusedVariables false
set_option linter.unusedSimpArgs false

/-! ### insn_without: function 43 -/
mutual
def insn_without.j0 : Nat → Int → Bool → Int → Int → Int → Int → Int → Option (Int × Int × Int × Int × Int)
  | 0, _, _, _, _, _, _, _ => none
  | k + 1, x3, x16, x141000, x141001, x141002, x141003, x141004 => if x16 = true then (some (x141000, 0, 0, 0, x141004)) else (if x3 = 2 then (some (x141000, 0, x141002, 0, 0)) else (if x3 = 4 then (insn_without.j1 k true x141000 x141001 x141002 x141003 x141004) else (insn_without.j1 k (x3 == 7) x141000 x141001 x141002 x141003 x141004)))
def insn_without.j1 : Nat → Bool → Int → Int → Int → Int → Int → Option (Int × Int × Int × Int × Int)
  | 0, _, _, _, _, _, _ => none
  | k + 1, x32, x141000, x141001, x141002, x141003, x141004 => if x32 = true then ((insn_Kind.f x141000).bind fun t143 => (if t143 = 128 then (some (x141000, 0, x141002, x141003, x141004)) else ((insn_ByReg.f x141000).bind fun t144 => (if t144 = true then (some (x141000, 0, 0, x141003, x141004)) else (some (x141000, 0, x141002, x141003, 0)))))) else (if x141000 = 5 then (some (x141000, x141001, x141002, 0, x141004)) else (if x141000 = 133 then (some (x141000, x141001, 0, x141003, 0)) else (if x141000 = 149 then (some (x141000, x141001, x141002, x141003, x141004)) else ((insn_ByReg.f x141000).bind fun t145 => (if t145 = true then (some (x141000, 0, 0, 0, x141004)) else (some (x141000, 0, x141002, 0, 0)))))))
end
def insn_without.f (k : Nat) (a0_0 : Int) (a0_1 : Int) (a0_2 : Int) (a0_3 : Int) (a0_4 : Int) : Option (Int × Int × Int × Int × Int) := (insn_Class.f a0_0).bind fun t142 => (if t142 = 0 then (some (a0_0, 0, 0, a0_3, 0)) else (if t142 = 1 then (insn_without.j0 k t142 true a0_0 a0_1 a0_2 a0_3 a0_4) else (insn_without.j0 k t142 (t142 == 3) a0_0 a0_1 a0_2 a0_3 a0_4)))
theorem insn_without.mono_l : ∀ k, (∀ y0 y1 y2 y3 y4 y5 y6, LeO (insn_without.j0 k y0 y1 y2 y3 y4 y5 y6) (insn_without.j0 (k + 1) y0 y1 y2 y3 y4 y5 y6)) ∧ (∀ y0 y1 y2 y3 y4 y5, LeO (insn_without.j1 k y0 y1 y2 y3 y4 y5) (insn_without.j1 (k + 1) y0 y1 y2 y3 y4 y5))
  | 0 => ⟨fun _ _ _ _ _ _ _ r h => by simp [insn_without.j0] at h, fun _ _ _ _ _ _ r h => by simp [insn_without.j1] at h⟩
  | k + 1 => by
    obtain ⟨ih0, ih1⟩ := insn_without.mono_l k
    refine ⟨?_, ?_⟩
    · intro y0 y1 y2 y3 y4 y5 y6
      unfold insn_without.j0
      repeat' first
      | (with_reducible exact ih0 _ _ _ _ _ _ _)
      | (with_reducible exact ih1 _ _ _ _ _ _)
      | (with_reducible exact LeO.refl _)
      | (with_reducible exact LeO.none _)
      | (with_reducible refine LeO.ite ?_ ?_)
      | (with_reducible refine LeO.bind ?_ (fun _ => ?_))
      | exact ih0 _ _ _ _ _ _ _
      | exact ih1 _ _ _ _ _ _
      | exact LeO.none _
      | refine LeO.ite ?_ ?_
      | refine LeO.bind ?_ (fun _ => ?_)
    · intro y0 y1 y2 y3 y4 y5
      unfold insn_without.j1
      repeat' first
      | (with_reducible exact ih0 _ _ _ _ _ _ _)
      | (with_reducible exact ih1 _ _ _ _ _ _)
      | (with_reducible exact LeO.refl _)
      | (with_reducible exact LeO.none _)
      | (with_reducible refine LeO.ite ?_ ?_)
      | (with_reducible refine LeO.bind ?_ (fun _ => ?_))
      | exact ih0 _ _ _ _ _ _ _
      | exact ih1 _ _ _ _ _ _
      | exact LeO.none _
      | refine LeO.ite ?_ ?_
      | refine LeO.bind ?_ (fun _ => ?_)
theorem insn_without.mono : ∀ a0 a1 a2 a3 a4 k, LeO (insn_without.f k a0 a1 a2 a3 a4) (insn_without.f (k + 1) a0 a1 a2 a3 a4) := by
  intro a0 a1 a2 a3 a4 k
  obtain ⟨ih0, ih1⟩ := insn_without.mono_l k
  unfold insn_without.f
  repeat' first
      | (with_reducible exact ih0 _ _ _ _ _ _ _)
      | (with_reducible exact ih1 _ _ _ _ _ _)
      | (with_reducible exact LeO.refl _)
      | (with_reducible exact LeO.none _)
      | (with_reducible refine LeO.ite ?_ ?_)
      | (with_reducible refine LeO.bind ?_ (fun _ => ?_))
      | exact ih0 _ _ _ _ _ _ _
      | exact ih1 _ _ _ _ _ _
      | exact LeO.none _
      | refine LeO.ite ?_ ?_
      | refine LeO.bind ?_ (fun _ => ?_)
set_option maxHeartbeats 8000000 in
set_option maxRecDepth 100000 in
theorem insn_without.calls (k : Nat) (a0_0 : Int) (a0_1 : Int) (a0_2 : Int) (a0_3 : Int) (a0_4 : Int) (r1 : Int) (r2 : Int) (r3 : Int) (r4 : Int) (r5 : Int) (w : World) (h : insn_without.f k a0_0 a0_1 a0_2 a0_3 a0_4 = some (r1, r2, r3, r4, r5)) :
    Calls Try.prog 43 #[.agg #[.int .u8 a0_0, .int .u8 a0_1, .int .u8 a0_2, .int .i16 a0_3, .int .i32 a0_4]] w fun e w' => e = .returned (.agg #[.int .u8 r1, .int .u8 r2, .int .u8 r3, .int .i16 r4, .int .i32 r5]) ∧ Below w.heap.size w w' := by
  have hu24 := Try.underlying24
  have HB := Aside0.mk (Below.refl w.heap.size w)
  have H : ((insn_Class.f a0_0).bind fun t142 => (if t142 = 0 then (some (a0_0, 0, 0, a0_3, 0)) else (if t142 = 1 then (insn_without.j0 k t142 true a0_0 a0_1 a0_2 a0_3 a0_4) else (insn_without.j0 k t142 (t142 == 3) a0_0 a0_1 a0_2 a0_3 a0_4)))) = some (r1, r2, r3, r4, r5) := h
  clear h
  replace H := Option.bind_eq_some_iff.mp H
  obtain ⟨t142, A20, H⟩ := H
  replace H : (if t142 = 0 then (some (a0_0, 0, 0, a0_3, 0)) else (if t142 = 1 then (insn_without.j0 k t142 true a0_0 a0_1 a0_2 a0_3 a0_4) else (insn_without.j0 k t142 (t142 == 3) a0_0 a0_1 a0_2 a0_3 a0_4))) = some (r1, r2, r3, r4, r5) := H
  have A2 := Aside0.mk A20
  clear A20
  by_cases c3 : t142 = 0
  · rw [if_pos c3] at H
    have c3b0 : (t142 == 0) = true := beq_iff_eq.mpr c3
    have c3b1 : (t142 != 0) = false := bne_eq_false_iff_eq.mpr c3
    clear c3
    simp only [Option.some.injEq, Prod.mk.injEq] at H
    obtain ⟨rfl, rfl, rfl, rfl, rfl⟩ := H
    go_enter Try.func43, Try.ntmps43
    go_wp2_with (first | ((with_reducible refine gate_dst (N := 1) rfl ?_); refine box_event ?hg (N := 1) ?hd (cs := #[.int .u8 a0_0, .int .u8 a0_1, .int .u8 a0_2, .int .i16 a0_3, .int .i32 a0_4]) (t := 24) ?hr ?_; (case hd => rfl); (case hg => rfl); (case hr => first | (go_simp; done) | (go_simp; rfl)); intro gb140 hg w4 hbox hb; have n0_ := Aside0.mk (below_step (by repeat (first | (with_reducible first | exact HB.out | apply below_alloc | apply pw_below_drewN | apply below_drew1) | exact HB.out)) hb); have n1_ := Aside0.mk (hbox); have n2_ := Aside0.mk ((by rw [hg]; exact (below_size (by repeat (first | (with_reducible first | exact HB.out | apply below_alloc | apply pw_below_drewN | apply below_drew1) | exact HB.out))) : w.heap.size ≤ gb140)); have n3_ := Aside0.mk ((by rw [hg]; exact (below_size (by repeat (first | (with_reducible first | exact HB.out | apply below_alloc | apply pw_below_drewN | apply below_drew1) | exact HB.out))) : w.heap.size ≤ gb140)); clear HB; have HB := n0_; have BK140 := n1_; have GW140 := n2_; have GE140 := n3_; clear n0_ n1_ n2_ n3_; clear hb hbox hg) | ((with_reducible refine gate_dst (N := 2) rfl ?_); refine box_event ?hg (N := 2) ?hd (cs := #[.int .u8 0, .int .u8 0, .int .u8 0, .int .i16 0, .int .i32 0]) (t := 24) ?hr ?_; (case hd => rfl); (case hg => rfl); (case hr => first | (go_simp; done) | (go_simp; rfl)); intro gb141 hg w5 hbox hb; have n0_ := Aside0.mk (blk_below (g := gb140) (o := .cells #[.int .u8 a0_0, .int .u8 a0_1, .int .u8 a0_2, .int .i16 a0_3, .int .i32 a0_4] 24 (0, 0)) (by (with_reducible repeat (first | refine blk_drewN ?_ _ | refine blk_drew ?_ | refine blk_alloc ?_ _)); exact BK140.out) hb); have n1_ := Aside0.mk (below_step (by repeat (first | (with_reducible first | exact HB.out | apply below_alloc | apply pw_below_drewN | apply below_drew1 | refine below_set ?_ GE140.out) | exact HB.out)) hb); have n2_ := Aside0.mk (hbox); have n3_ := Aside0.mk ((by rw [hg]; exact (below_size (by repeat (first | (with_reducible first | exact HB.out | apply below_alloc | apply pw_below_drewN | apply below_drew1 | refine below_set ?_ GE140.out) | exact HB.out))) : w.heap.size ≤ gb141)); have n4_ := Aside0.mk ((by rw [hg]; exact (below_size (by repeat (first | (with_reducible first | exact HB.out | apply below_alloc | apply pw_below_drewN | apply below_drew1 | refine below_set ?_ GE140.out) | exact HB.out))) : w.heap.size ≤ gb141)); have n5_ := Aside0.mk ((by rw [hg]; exact Nat.ne_of_lt (blk_lt (g := gb140) (o := .cells #[.int .u8 a0_0, .int .u8 a0_1, .int .u8 a0_2, .int .i16 a0_3, .int .i32 a0_4] 24 (0, 0)) (by (with_reducible repeat (first | refine blk_drewN ?_ _ | refine blk_drew ?_ | refine blk_alloc ?_ _)); exact BK140.out)) : gb140 ≠ gb141)); have n6_ := Aside0.mk ((by rw [hg]; exact Nat.ne_of_gt (blk_lt (g := gb140) (o := .cells #[.int .u8 a0_0, .int .u8 a0_1, .int .u8 a0_2, .int .i16 a0_3, .int .i32 a0_4] 24 (0, 0)) (by (with_reducible repeat (first | refine blk_drewN ?_ _ | refine blk_drew ?_ | refine blk_alloc ?_ _)); exact BK140.out)) : gb141 ≠ gb140)); clear BK140; clear HB; have BK140 := n0_; have HB := n1_; have BK141 := n2_; have GW141 := n3_; have GE141 := n4_; have NB140_141 := n5_; have NB141_140 := n6_; clear n0_ n1_ n2_ n3_ n4_ n5_ n6_; clear hb hbox hg; have hnb6 := NB140_141.out; have hnc6 := NB141_140.out; have hcz7_0 : w5.cell? ⟨gb140, 0, none⟩ = some (.int .u8 a0_0) := (blk_cell BK140.out 0).trans rfl; have hcz7_1 : w5.cell? ⟨gb140, 1, none⟩ = some (.int .u8 a0_1) := (blk_cell BK140.out 1).trans rfl; have hcz7_2 : w5.cell? ⟨gb140, 2, none⟩ = some (.int .u8 a0_2) := (blk_cell BK140.out 2).trans rfl; have hcz7_3 : w5.cell? ⟨gb140, 3, none⟩ = some (.int .i16 a0_3) := (blk_cell BK140.out 3).trans rfl; have hcz7_4 : w5.cell? ⟨gb140, 4, none⟩ = some (.int .i32 a0_4) := (blk_cell BK140.out 4).trans rfl; have hfz7_0 := blk_frozen BK140.out 0; have hfz7_1 := blk_frozen BK140.out 1; have hfz7_2 := blk_frozen BK140.out 2; have hfz7_3 := blk_frozen BK140.out 3; have hfz7_4 := blk_frozen BK140.out 4) | ((with_reducible refine gate_callee (f := 19) rfl ?_); refine goesL_ (some 6) rfl rfl Try.func19 (by kernel_rfl) rfl #[.int .u8 a0_0] rfl (by (try simp only [List.map_toArray, List.map_cons, List.map_nil]); first | done | rfl | (simp only [List.length_drop, List.length_take]; rfl)) ?_; (with_reducible refine (insn_Class.calls a0_0 t142 _ A2.out).mono ?_); rintro e w' ⟨rfl, ⟨nd, rfl⟩⟩; refine ⟨_, rfl, ?_⟩; (try (rw [drewN_self w5]; generalize hq_ : World.drewN w5 _ = w5; have n0_ : Aside0 (w5.heap[gb140]? = some (.cells #[.int .u8 a0_0, .int .u8 a0_1, .int .u8 a0_2, .int .i16 a0_3, .int .i32 a0_4] 24 (0, 0))) := ⟨by rw [← hq_]; exact (by (with_reducible repeat (first | refine blk_drewN ?_ _ | refine blk_drew ?_ | refine blk_alloc ?_ _)); exact BK140.out)⟩; have n1_ : Aside0 (w5.heap[gb141]? = some (.cells #[.int .u8 0, .int .u8 0, .int .u8 0, .int .i16 0, .int .i32 0] 24 (0, 0))) := ⟨by rw [← hq_]; exact (by (with_reducible repeat (first | refine blk_drewN ?_ _ | refine blk_drew ?_ | refine blk_alloc ?_ _)); exact BK141.out)⟩; have n2_ : Aside0 (Below w.heap.size w w5) := ⟨by rw [← hq_]; exact (by repeat (first | (with_reducible first | exact HB.out | apply below_alloc | apply pw_below_drewN | apply below_drew1 | refine below_set ?_ GE140.out | refine below_set ?_ GE141.out) | exact HB.out))⟩; clear BK140 BK141 HB hq_; have BK140 := n0_; have BK141 := n1_; have HB := n2_; clear n0_ n1_ n2_)); have hcz8_0 : w5.cell? ⟨gb141, 0, none⟩ = some (.int .u8 0) := (blk_cell BK141.out 0).trans rfl; have hcz8_1 : w5.cell? ⟨gb141, 1, none⟩ = some (.int .u8 0) := (blk_cell BK141.out 1).trans rfl; have hcz8_2 : w5.cell? ⟨gb141, 2, none⟩ = some (.int .u8 0) := (blk_cell BK141.out 2).trans rfl; have hcz8_3 : w5.cell? ⟨gb141, 3, none⟩ = some (.int .i16 0) := (blk_cell BK141.out 3).trans rfl; have hcz8_4 : w5.cell? ⟨gb141, 4, none⟩ = some (.int .i32 0) := (blk_cell BK141.out 4).trans rfl; have hfz8_0 := blk_frozen BK141.out 0; have hfz8_1 := blk_frozen BK141.out 1; have hfz8_2 := blk_frozen BK141.out 2; have hfz8_3 := blk_frozen BK141.out 3; have hfz8_4 := blk_frozen BK141.out 4; have hnx := NB140_141.out; have hny := NB141_140.out; have hcy_0 : w5.cell? ⟨gb140, 0, none⟩ = some (.int .u8 a0_0) := (blk_cell BK140.out 0).trans rfl; have hcy_1 : w5.cell? ⟨gb140, 1, none⟩ = some (.int .u8 a0_1) := (blk_cell BK140.out 1).trans rfl; have hcy_2 : w5.cell? ⟨gb140, 2, none⟩ = some (.int .u8 a0_2) := (blk_cell BK140.out 2).trans rfl; have hcy_3 : w5.cell? ⟨gb140, 3, none⟩ = some (.int .i16 a0_3) := (blk_cell BK140.out 3).trans rfl; have hcy_4 : w5.cell? ⟨gb140, 4, none⟩ = some (.int .i32 a0_4) := (blk_cell BK140.out 4).trans rfl; have hfy_0 := blk_frozen BK140.out 0; have hfy_1 := blk_frozen BK140.out 1; have hfy_2 := blk_frozen BK140.out 2; have hfy_3 := blk_frozen BK140.out 3; have hfy_4 := blk_frozen BK140.out 4))
    refine bodyPost_ret (results_cell_row rfl _ _ gb141 24 #[.int .u8 a0_0, .int .u8 0, .int .u8 0, .int .i16 a0_3, .int .i32 0] (0, 0) _ rfl (by (with_reducible repeat (first | refine blk_drewN ?_ _ | refine blk_drew ?_ | refine blk_alloc ?_ _)); refine blk_put (cs := #[.int .u8 a0_0, .int .u8 0, .int .u8 0, .int .i16 a0_3, .int .i32 0]) ?_ 4 _ rfl; (with_reducible repeat (first | refine blk_drewN ?_ _ | refine blk_drew ?_ | refine blk_alloc ?_ _)); refine blk_put (cs := #[.int .u8 a0_0, .int .u8 0, .int .u8 0, .int .i16 0, .int .i32 0]) ?_ 3 _ rfl; (with_reducible repeat (first | refine blk_drewN ?_ _ | refine blk_drew ?_ | refine blk_alloc ?_ _)); refine blk_put (cs := #[.int .u8 a0_0, .int .u8 0, .int .u8 0, .int .i16 0, .int .i32 0]) ?_ 2 _ rfl; (with_reducible repeat (first | refine blk_drewN ?_ _ | refine blk_drew ?_ | refine blk_alloc ?_ _)); refine blk_put (cs := #[.int .u8 a0_0, .int .u8 0, .int .u8 0, .int .i16 0, .int .i32 0]) ?_ 1 _ rfl; (with_reducible repeat (first | refine blk_drewN ?_ _ | refine blk_drew ?_ | refine blk_alloc ?_ _)); refine blk_put (cs := #[.int .u8 0, .int .u8 0, .int .u8 0, .int .i16 0, .int .i32 0]) ?_ 0 _ rfl; (with_reducible repeat (first | refine blk_drewN ?_ _ | refine blk_drew ?_ | refine blk_alloc ?_ _)); refine blk_far ?_ NB141_140.out _; (with_reducible repeat (first | refine blk_drewN ?_ _ | refine blk_drew ?_ | refine blk_alloc ?_ _)); refine blk_far ?_ NB141_140.out _; (with_reducible repeat (first | refine blk_drewN ?_ _ | refine blk_drew ?_ | refine blk_alloc ?_ _)); refine blk_far ?_ NB141_140.out _; (with_reducible repeat (first | refine blk_drewN ?_ _ | refine blk_drew ?_ | refine blk_alloc ?_ _)); exact BK141.out) Try.underlying24 rfl (by kernel_rfl)) rfl ?_
    exact ⟨by first | rfl | (simp [errW_none, errW_some] <;> rfl) | (simp [*, errW_none, errW_some] <;> rfl), by repeat (first | (with_reducible first | exact HB.out | apply below_alloc | apply pw_below_drewN | apply below_drew1 | refine below_set ?_ GE140.out | refine below_set ?_ GE141.out) | exact HB.out)⟩
  · rw [if_neg c3] at H
    have c3b0 : (t142 == 0) = false := beq_eq_false_iff_ne.mpr c3
    have c3b1 : (t142 != 0) = true := bne_iff_ne.mpr c3
    have HC9 := Aside0.mk H
    clear H
    go_enter Try.func43, Try.ntmps43
    go_upto_region 5 with (first | ((with_reducible refine gate_dst (N := 1) rfl ?_); refine box_event ?hg (N := 1) ?hd (cs := #[.int .u8 a0_0, .int .u8 a0_1, .int .u8 a0_2, .int .i16 a0_3, .int .i32 a0_4]) (t := 24) ?hr ?_; (case hd => rfl); (case hg => rfl); (case hr => first | (go_simp; done) | (go_simp; rfl)); intro gb140 hg w10 hbox hb; have n0_ := Aside0.mk (below_step (by repeat (first | (with_reducible first | exact HB.out | apply below_alloc | apply pw_below_drewN | apply below_drew1) | exact HB.out)) hb); have n1_ := Aside0.mk (hbox); have n2_ := Aside0.mk ((by rw [hg]; exact (below_size (by repeat (first | (with_reducible first | exact HB.out | apply below_alloc | apply pw_below_drewN | apply below_drew1) | exact HB.out))) : w.heap.size ≤ gb140)); have n3_ := Aside0.mk ((by rw [hg]; exact (below_size (by repeat (first | (with_reducible first | exact HB.out | apply below_alloc | apply pw_below_drewN | apply below_drew1) | exact HB.out))) : w.heap.size ≤ gb140)); clear HB; have HB := n0_; have BK140 := n1_; have GW140 := n2_; have GE140 := n3_; clear n0_ n1_ n2_ n3_; clear hb hbox hg) | ((with_reducible refine gate_dst (N := 2) rfl ?_); refine box_event ?hg (N := 2) ?hd (cs := #[.int .u8 0, .int .u8 0, .int .u8 0, .int .i16 0, .int .i32 0]) (t := 24) ?hr ?_; (case hd => rfl); (case hg => rfl); (case hr => first | (go_simp; done) | (go_simp; rfl)); intro gb141 hg w11 hbox hb; have n0_ := Aside0.mk (blk_below (g := gb140) (o := .cells #[.int .u8 a0_0, .int .u8 a0_1, .int .u8 a0_2, .int .i16 a0_3, .int .i32 a0_4] 24 (0, 0)) (by (with_reducible repeat (first | refine blk_drewN ?_ _ | refine blk_drew ?_ | refine blk_alloc ?_ _)); exact BK140.out) hb); have n1_ := Aside0.mk (below_step (by repeat (first | (with_reducible first | exact HB.out | apply below_alloc | apply pw_below_drewN | apply below_drew1 | refine below_set ?_ GE140.out) | exact HB.out)) hb); have n2_ := Aside0.mk (hbox); have n3_ := Aside0.mk ((by rw [hg]; exact (below_size (by repeat (first | (with_reducible first | exact HB.out | apply below_alloc | apply pw_below_drewN | apply below_drew1 | refine below_set ?_ GE140.out) | exact HB.out))) : w.heap.size ≤ gb141)); have n4_ := Aside0.mk ((by rw [hg]; exact (below_size (by repeat (first | (with_reducible first | exact HB.out | apply below_alloc | apply pw_below_drewN | apply below_drew1 | refine below_set ?_ GE140.out) | exact HB.out))) : w.heap.size ≤ gb141)); have n5_ := Aside0.mk ((by rw [hg]; exact Nat.ne_of_lt (blk_lt (g := gb140) (o := .cells #[.int .u8 a0_0, .int .u8 a0_1, .int .u8 a0_2, .int .i16 a0_3, .int .i32 a0_4] 24 (0, 0)) (by (with_reducible repeat (first | refine blk_drewN ?_ _ | refine blk_drew ?_ | refine blk_alloc ?_ _)); exact BK140.out)) : gb140 ≠ gb141)); have n6_ := Aside0.mk ((by rw [hg]; exact Nat.ne_of_gt (blk_lt (g := gb140) (o := .cells #[.int .u8 a0_0, .int .u8 a0_1, .int .u8 a0_2, .int .i16 a0_3, .int .i32 a0_4] 24 (0, 0)) (by (with_reducible repeat (first | refine blk_drewN ?_ _ | refine blk_drew ?_ | refine blk_alloc ?_ _)); exact BK140.out)) : gb141 ≠ gb140)); clear BK140; clear HB; have BK140 := n0_; have HB := n1_; have BK141 := n2_; have GW141 := n3_; have GE141 := n4_; have NB140_141 := n5_; have NB141_140 := n6_; clear n0_ n1_ n2_ n3_ n4_ n5_ n6_; clear hb hbox hg; have hnb12 := NB140_141.out; have hnc12 := NB141_140.out; have hcz13_0 : w11.cell? ⟨gb140, 0, none⟩ = some (.int .u8 a0_0) := (blk_cell BK140.out 0).trans rfl; have hcz13_1 : w11.cell? ⟨gb140, 1, none⟩ = some (.int .u8 a0_1) := (blk_cell BK140.out 1).trans rfl; have hcz13_2 : w11.cell? ⟨gb140, 2, none⟩ = some (.int .u8 a0_2) := (blk_cell BK140.out 2).trans rfl; have hcz13_3 : w11.cell? ⟨gb140, 3, none⟩ = some (.int .i16 a0_3) := (blk_cell BK140.out 3).trans rfl; have hcz13_4 : w11.cell? ⟨gb140, 4, none⟩ = some (.int .i32 a0_4) := (blk_cell BK140.out 4).trans rfl; have hfz13_0 := blk_frozen BK140.out 0; have hfz13_1 := blk_frozen BK140.out 1; have hfz13_2 := blk_frozen BK140.out 2; have hfz13_3 := blk_frozen BK140.out 3; have hfz13_4 := blk_frozen BK140.out 4) | ((with_reducible refine gate_callee (f := 19) rfl ?_); refine goesL_ (some 6) rfl rfl Try.func19 (by kernel_rfl) rfl #[.int .u8 a0_0] rfl (by (try simp only [List.map_toArray, List.map_cons, List.map_nil]); first | done | rfl | (simp only [List.length_drop, List.length_take]; rfl)) ?_; (with_reducible refine (insn_Class.calls a0_0 t142 _ A2.out).mono ?_); rintro e w' ⟨rfl, ⟨nd, rfl⟩⟩; refine ⟨_, rfl, ?_⟩))
    (try simp only [Act.put, List.setIfInBounds_toArray, List.set_cons_zero, List.set_cons_succ])
    go_cut [16] (fun v16 wc => ∃ (kq : Nat) (x16_8 : Bool), v16 = .bool x16_8 ∧ Aside0 (insn_without.j0 kq t142 x16_8 a0_0 a0_1 a0_2 a0_3 a0_4 = some (r1, r2, r3, r4, r5)) ∧ Aside0 (kq ≤ k) ∧ Aside0 (wc.heap[gb140]? = some (.cells #[.int .u8 a0_0, .int .u8 a0_1, .int .u8 a0_2, .int .i16 a0_3, .int .i32 a0_4] 24 (0, 0))) ∧ Aside0 (wc.heap[gb141]? = some (.cells #[.int .u8 0, .int .u8 0, .int .u8 0, .int .i16 0, .int .i32 0] 24 (0, 0))) ∧ Aside0 (Below w.heap.size w wc))
    case first =>
      have H := HC9.out
      clear HC9
      by_cases c14 : t142 = 1
      · rw [if_pos c14] at H
        have c14b0 : (t142 == 1) = true := beq_iff_eq.mpr c14
        have c14b1 : (t142 != 1) = false := bne_eq_false_iff_eq.mpr c14
        clear c14
        (first | rw [c14b0] | (simp only [i64_w, i32_w]; rw [c14b0]) | skip)
        have H' := Aside0.mk H
        clear H
        go_wp2
        go_meet
        case rel => exact ⟨_, (true), (by first | rfl | (simp; done) | (simp [*]; done)), H', ⟨by first | omega | exact Nat.le_refl _⟩, ⟨by (with_reducible repeat (first | refine blk_drewN ?_ _ | refine blk_drew ?_ | refine blk_alloc ?_ _)); exact BK140.out⟩, ⟨by (with_reducible repeat (first | refine blk_drewN ?_ _ | refine blk_drew ?_ | refine blk_alloc ?_ _)); exact BK141.out⟩, ⟨by repeat (first | (with_reducible first | exact HB.out | apply below_alloc | apply pw_below_drewN | apply below_drew1 | refine below_set ?_ GE140.out | refine below_set ?_ GE141.out) | exact HB.out)⟩⟩
      · rw [if_neg c14] at H
        have c14b0 : (t142 == 1) = false := beq_eq_false_iff_ne.mpr c14
        have c14b1 : (t142 != 1) = true := bne_iff_ne.mpr c14
        (first | rw [c14b0] | (simp only [i64_w, i32_w]; rw [c14b0]) | skip)
        have H' := Aside0.mk H
        clear H
        go_wp2
        go_meet
        case rel => exact ⟨_, ((t142 == 3)), (by first | rfl | (simp; done) | (simp [*]; done)), H', ⟨by first | omega | exact Nat.le_refl _⟩, ⟨by (with_reducible repeat (first | refine blk_drewN ?_ _ | refine blk_drew ?_ | refine blk_alloc ?_ _)); exact BK140.out⟩, ⟨by (with_reducible repeat (first | refine blk_drewN ?_ _ | refine blk_drew ?_ | refine blk_alloc ?_ _)); exact BK141.out⟩, ⟨by repeat (first | (with_reducible first | exact HB.out | apply below_alloc | apply pw_below_drewN | apply below_drew1 | refine below_set ?_ GE140.out | refine below_set ?_ GE141.out) | exact HB.out)⟩⟩
    case rest =>
      clear HC9
      try clear c1
      try clear p2
      try clear c3
      try clear c3b0
      try clear c3b1
      try clear c4
      try clear c6
      try clear c12
      try clear c14
      try clear c14b0
      try clear c14b1
      try clear hcz13_0
      try clear hcz13_1
      try clear hcz13_2
      try clear hcz13_3
      try clear hcz13_4
      try clear hcz7_0
      try clear hcz7_1
      try clear hcz7_2
      try clear hcz7_3
      try clear hcz7_4
      try clear hcz8_0
      try clear hcz8_1
      try clear hcz8_2
      try clear hcz8_3
      try clear hcz8_4
      try clear hfz13_0
      try clear hfz13_1
      try clear hfz13_2
      try clear hfz13_3
      try clear hfz13_4
      try clear hfz7_0
      try clear hfz7_1
      try clear hfz7_2
      try clear hfz7_3
      try clear hfz7_4
      try clear hfz8_0
      try clear hfz8_1
      try clear hfz8_2
      try clear hfz8_3
      try clear hfz8_4
      obtain ⟨kq, x16_8, rfl, HA, HJ8, BK140, BK141, HB⟩ := hcut
      cases kq with
      | zero => exact absurd HA.out (by simp [insn_without.j0])
      | succ kj8 =>
        have H := HA.out
        clear HA
        simp only [insn_without.j0] at H
        by_cases c15 : x16_8 = true
        · subst c15
          have H1 : (some (a0_0, 0, 0, 0, a0_4)) = some (r1, r2, r3, r4, r5) := by rw [if_pos rfl] at H; exact H
          clear H
          have H := H1
          clear H1
          simp only [Option.some.injEq, Prod.mk.injEq] at H
          obtain ⟨rfl, rfl, rfl, rfl, rfl⟩ := H
          have hnb16 := NB140_141.out
          have hnc16 := NB141_140.out
          have hcz17_0 : wc.cell? ⟨gb140, 0, none⟩ = some (.int .u8 a0_0) := (blk_cell BK140.out 0).trans rfl
          have hcz17_1 : wc.cell? ⟨gb140, 1, none⟩ = some (.int .u8 a0_1) := (blk_cell BK140.out 1).trans rfl
          have hcz17_2 : wc.cell? ⟨gb140, 2, none⟩ = some (.int .u8 a0_2) := (blk_cell BK140.out 2).trans rfl
          have hcz17_3 : wc.cell? ⟨gb140, 3, none⟩ = some (.int .i16 a0_3) := (blk_cell BK140.out 3).trans rfl
          have hcz17_4 : wc.cell? ⟨gb140, 4, none⟩ = some (.int .i32 a0_4) := (blk_cell BK140.out 4).trans rfl
          have hfz17_0 := blk_frozen BK140.out 0
          have hfz17_1 := blk_frozen BK140.out 1
          have hfz17_2 := blk_frozen BK140.out 2
          have hfz17_3 := blk_frozen BK140.out 3
          have hfz17_4 := blk_frozen BK140.out 4
          have hcz18_0 : wc.cell? ⟨gb141, 0, none⟩ = some (.int .u8 0) := (blk_cell BK141.out 0).trans rfl
          have hcz18_1 : wc.cell? ⟨gb141, 1, none⟩ = some (.int .u8 0) := (blk_cell BK141.out 1).trans rfl
          have hcz18_2 : wc.cell? ⟨gb141, 2, none⟩ = some (.int .u8 0) := (blk_cell BK141.out 2).trans rfl
          have hcz18_3 : wc.cell? ⟨gb141, 3, none⟩ = some (.int .i16 0) := (blk_cell BK141.out 3).trans rfl
          have hcz18_4 : wc.cell? ⟨gb141, 4, none⟩ = some (.int .i32 0) := (blk_cell BK141.out 4).trans rfl
          have hfz18_0 := blk_frozen BK141.out 0
          have hfz18_1 := blk_frozen BK141.out 1
          have hfz18_2 := blk_frozen BK141.out 2
          have hfz18_3 := blk_frozen BK141.out 3
          have hfz18_4 := blk_frozen BK141.out 4
          go_wp2
          refine bodyPost_ret (results_cell_row rfl _ _ gb141 24 #[.int .u8 a0_0, .int .u8 0, .int .u8 0, .int .i16 0, .int .i32 a0_4] (0, 0) _ rfl (by (with_reducible repeat (first | refine blk_drewN ?_ _ | refine blk_drew ?_ | refine blk_alloc ?_ _)); refine blk_put (cs := #[.int .u8 a0_0, .int .u8 0, .int .u8 0, .int .i16 0, .int .i32 0]) ?_ 4 _ rfl; (with_reducible repeat (first | refine blk_drewN ?_ _ | refine blk_drew ?_ | refine blk_alloc ?_ _)); refine blk_put (cs := #[.int .u8 a0_0, .int .u8 0, .int .u8 0, .int .i16 0, .int .i32 0]) ?_ 3 _ rfl; (with_reducible repeat (first | refine blk_drewN ?_ _ | refine blk_drew ?_ | refine blk_alloc ?_ _)); refine blk_put (cs := #[.int .u8 a0_0, .int .u8 0, .int .u8 0, .int .i16 0, .int .i32 0]) ?_ 2 _ rfl; (with_reducible repeat (first | refine blk_drewN ?_ _ | refine blk_drew ?_ | refine blk_alloc ?_ _)); refine blk_put (cs := #[.int .u8 a0_0, .int .u8 0, .int .u8 0, .int .i16 0, .int .i32 0]) ?_ 1 _ rfl; (with_reducible repeat (first | refine blk_drewN ?_ _ | refine blk_drew ?_ | refine blk_alloc ?_ _)); refine blk_put (cs := #[.int .u8 0, .int .u8 0, .int .u8 0, .int .i16 0, .int .i32 0]) ?_ 0 _ rfl; (with_reducible repeat (first | refine blk_drewN ?_ _ | refine blk_drew ?_ | refine blk_alloc ?_ _)); refine blk_far ?_ NB141_140.out _; (with_reducible repeat (first | refine blk_drewN ?_ _ | refine blk_drew ?_ | refine blk_alloc ?_ _)); refine blk_far ?_ NB141_140.out _; (with_reducible repeat (first | refine blk_drewN ?_ _ | refine blk_drew ?_ | refine blk_alloc ?_ _)); refine blk_far ?_ NB141_140.out _; (with_reducible repeat (first | refine blk_drewN ?_ _ | refine blk_drew ?_ | refine blk_alloc ?_ _)); exact BK141.out) Try.underlying24 rfl (by kernel_rfl)) rfl ?_
          exact ⟨by first | rfl | (simp [errW_none, errW_some] <;> rfl) | (simp [*, errW_none, errW_some] <;> rfl), by repeat (first | (with_reducible first | exact HB.out | apply below_alloc | apply pw_below_drewN | apply below_drew1 | refine below_set ?_ GE140.out | refine below_set ?_ GE141.out) | exact HB.out)⟩
        · replace c15 := Bool.eq_false_iff.mpr c15
          subst c15
          have H1 : (if t142 = 2 then (some (a0_0, 0, a0_2, 0, 0)) else (if t142 = 4 then (insn_without.j1 kj8 true a0_0 a0_1 a0_2 a0_3 a0_4) else (insn_without.j1 kj8 (t142 == 7) a0_0 a0_1 a0_2 a0_3 a0_4))) = some (r1, r2, r3, r4, r5) := by rw [if_neg (show ¬ (false = true) by decide)] at H; exact H
          clear H
          have H := H1
          clear H1
          by_cases c19 : t142 = 2
          · rw [if_pos c19] at H
            have c19b0 : (t142 == 2) = true := beq_iff_eq.mpr c19
            have c19b1 : (t142 != 2) = false := bne_eq_false_iff_eq.mpr c19
            clear c19
            simp only [Option.some.injEq, Prod.mk.injEq] at H
            obtain ⟨rfl, rfl, rfl, rfl, rfl⟩ := H
            have hnb20 := NB140_141.out
            have hnc20 := NB141_140.out
            have hcz21_0 : wc.cell? ⟨gb140, 0, none⟩ = some (.int .u8 a0_0) := (blk_cell BK140.out 0).trans rfl
            have hcz21_1 : wc.cell? ⟨gb140, 1, none⟩ = some (.int .u8 a0_1) := (blk_cell BK140.out 1).trans rfl
            have hcz21_2 : wc.cell? ⟨gb140, 2, none⟩ = some (.int .u8 a0_2) := (blk_cell BK140.out 2).trans rfl
            have hcz21_3 : wc.cell? ⟨gb140, 3, none⟩ = some (.int .i16 a0_3) := (blk_cell BK140.out 3).trans rfl
            have hcz21_4 : wc.cell? ⟨gb140, 4, none⟩ = some (.int .i32 a0_4) := (blk_cell BK140.out 4).trans rfl
            have hfz21_0 := blk_frozen BK140.out 0
            have hfz21_1 := blk_frozen BK140.out 1
            have hfz21_2 := blk_frozen BK140.out 2
            have hfz21_3 := blk_frozen BK140.out 3
            have hfz21_4 := blk_frozen BK140.out 4
            have hcz22_0 : wc.cell? ⟨gb141, 0, none⟩ = some (.int .u8 0) := (blk_cell BK141.out 0).trans rfl
            have hcz22_1 : wc.cell? ⟨gb141, 1, none⟩ = some (.int .u8 0) := (blk_cell BK141.out 1).trans rfl
            have hcz22_2 : wc.cell? ⟨gb141, 2, none⟩ = some (.int .u8 0) := (blk_cell BK141.out 2).trans rfl
            have hcz22_3 : wc.cell? ⟨gb141, 3, none⟩ = some (.int .i16 0) := (blk_cell BK141.out 3).trans rfl
            have hcz22_4 : wc.cell? ⟨gb141, 4, none⟩ = some (.int .i32 0) := (blk_cell BK141.out 4).trans rfl
            have hfz22_0 := blk_frozen BK141.out 0
            have hfz22_1 := blk_frozen BK141.out 1
            have hfz22_2 := blk_frozen BK141.out 2
            have hfz22_3 := blk_frozen BK141.out 3
            have hfz22_4 := blk_frozen BK141.out 4
            go_wp2
            refine bodyPost_ret (results_cell_row rfl _ _ gb141 24 #[.int .u8 a0_0, .int .u8 0, .int .u8 a0_2, .int .i16 0, .int .i32 0] (0, 0) _ rfl (by (with_reducible repeat (first | refine blk_drewN ?_ _ | refine blk_drew ?_ | refine blk_alloc ?_ _)); refine blk_put (cs := #[.int .u8 a0_0, .int .u8 0, .int .u8 a0_2, .int .i16 0, .int .i32 0]) ?_ 4 _ rfl; (with_reducible repeat (first | refine blk_drewN ?_ _ | refine blk_drew ?_ | refine blk_alloc ?_ _)); refine blk_put (cs := #[.int .u8 a0_0, .int .u8 0, .int .u8 a0_2, .int .i16 0, .int .i32 0]) ?_ 3 _ rfl; (with_reducible repeat (first | refine blk_drewN ?_ _ | refine blk_drew ?_ | refine blk_alloc ?_ _)); refine blk_put (cs := #[.int .u8 a0_0, .int .u8 0, .int .u8 0, .int .i16 0, .int .i32 0]) ?_ 2 _ rfl; (with_reducible repeat (first | refine blk_drewN ?_ _ | refine blk_drew ?_ | refine blk_alloc ?_ _)); refine blk_put (cs := #[.int .u8 a0_0, .int .u8 0, .int .u8 0, .int .i16 0, .int .i32 0]) ?_ 1 _ rfl; (with_reducible repeat (first | refine blk_drewN ?_ _ | refine blk_drew ?_ | refine blk_alloc ?_ _)); refine blk_put (cs := #[.int .u8 0, .int .u8 0, .int .u8 0, .int .i16 0, .int .i32 0]) ?_ 0 _ rfl; (with_reducible repeat (first | refine blk_drewN ?_ _ | refine blk_drew ?_ | refine blk_alloc ?_ _)); refine blk_far ?_ NB141_140.out _; (with_reducible repeat (first | refine blk_drewN ?_ _ | refine blk_drew ?_ | refine blk_alloc ?_ _)); refine blk_far ?_ NB141_140.out _; (with_reducible repeat (first | refine blk_drewN ?_ _ | refine blk_drew ?_ | refine blk_alloc ?_ _)); refine blk_far ?_ NB141_140.out _; (with_reducible repeat (first | refine blk_drewN ?_ _ | refine blk_drew ?_ | refine blk_alloc ?_ _)); exact BK141.out) Try.underlying24 rfl (by kernel_rfl)) rfl ?_
            exact ⟨by first | rfl | (simp [errW_none, errW_some] <;> rfl) | (simp [*, errW_none, errW_some] <;> rfl), by repeat (first | (with_reducible first | exact HB.out | apply below_alloc | apply pw_below_drewN | apply below_drew1 | refine below_set ?_ GE140.out | refine below_set ?_ GE141.out) | exact HB.out)⟩
          · rw [if_neg c19] at H
            have c19b0 : (t142 == 2) = false := beq_eq_false_iff_ne.mpr c19
            have c19b1 : (t142 != 2) = true := bne_iff_ne.mpr c19
            have HC23 := Aside0.mk H
            clear H
            go_upto_region 9 with (fail)
            go_cut [32] (fun v32 wc => ∃ (kq : Nat) (x32_22 : Bool), v32 = .bool x32_22 ∧ Aside0 (insn_without.j1 kq x32_22 a0_0 a0_1 a0_2 a0_3 a0_4 = some (r1, r2, r3, r4, r5)) ∧ Aside0 (kq ≤ kj8) ∧ Aside0 (wc.heap[gb140]? = some (.cells #[.int .u8 a0_0, .int .u8 a0_1, .int .u8 a0_2, .int .i16 a0_3, .int .i32 a0_4] 24 (0, 0))) ∧ Aside0 (wc.heap[gb141]? = some (.cells #[.int .u8 0, .int .u8 0, .int .u8 0, .int .i16 0, .int .i32 0] 24 (0, 0))) ∧ Aside0 (Below w.heap.size w wc))
            case first =>
              have H := HC23.out
              clear HC23
              by_cases c24 : t142 = 4
              · rw [if_pos c24] at H
                have c24b0 : (t142 == 4) = true := beq_iff_eq.mpr c24
                have c24b1 : (t142 != 4) = false := bne_eq_false_iff_eq.mpr c24
                clear c24
                (first | rw [c24b0] | (simp only [i64_w, i32_w]; rw [c24b0]) | skip)
                have H' := Aside0.mk H
                clear H
                go_wp2
                go_meet
                case rel => exact ⟨_, (true), (by first | rfl | (simp; done) | (simp [*]; done)), H', ⟨by have := HJ8.out; first | omega | exact Nat.le_refl _⟩, ⟨by (with_reducible repeat (first | refine blk_drewN ?_ _ | refine blk_drew ?_ | refine blk_alloc ?_ _)); exact BK140.out⟩, ⟨by (with_reducible repeat (first | refine blk_drewN ?_ _ | refine blk_drew ?_ | refine blk_alloc ?_ _)); exact BK141.out⟩, ⟨by repeat (first | (with_reducible first | exact HB.out | apply below_alloc | apply pw_below_drewN | apply below_drew1 | refine below_set ?_ GE140.out | refine below_set ?_ GE141.out) | exact HB.out)⟩⟩
              · rw [if_neg c24] at H
                have c24b0 : (t142 == 4) = false := beq_eq_false_iff_ne.mpr c24
                have c24b1 : (t142 != 4) = true := bne_iff_ne.mpr c24
                (first | rw [c24b0] | (simp only [i64_w, i32_w]; rw [c24b0]) | skip)
                have H' := Aside0.mk H
                clear H
                go_wp2
                go_meet
                case rel => exact ⟨_, ((t142 == 7)), (by first | rfl | (simp; done) | (simp [*]; done)), H', ⟨by have := HJ8.out; first | omega | exact Nat.le_refl _⟩, ⟨by (with_reducible repeat (first | refine blk_drewN ?_ _ | refine blk_drew ?_ | refine blk_alloc ?_ _)); exact BK140.out⟩, ⟨by (with_reducible repeat (first | refine blk_drewN ?_ _ | refine blk_drew ?_ | refine blk_alloc ?_ _)); exact BK141.out⟩, ⟨by repeat (first | (with_reducible first | exact HB.out | apply below_alloc | apply pw_below_drewN | apply below_drew1 | refine below_set ?_ GE140.out | refine below_set ?_ GE141.out) | exact HB.out)⟩⟩
            case rest =>
              clear HC23
              try clear c1
              try clear c2
              try clear p2
              try clear c3
              try clear c3b0
              try clear c3b1
              try clear c4
              try clear c6
              try clear c12
              try clear c14
              try clear c14b0
              try clear c14b1
              try clear c15
              try clear c16
              try clear c19
              try clear c19b0
              try clear c19b1
              try clear c20
              try clear c24
              try clear c24b0
              try clear c24b1
              try clear hcz13_0
              try clear hcz13_1
              try clear hcz13_2
              try clear hcz13_3
              try clear hcz13_4
              try clear hcz17_0
              try clear hcz17_1
              try clear hcz17_2
              try clear hcz17_3
              try clear hcz17_4
              try clear hcz18_0
              try clear hcz18_1
              try clear hcz18_2
              try clear hcz18_3
              try clear hcz18_4
              try clear hcz21_0
              try clear hcz21_1
              try clear hcz21_2
              try clear hcz21_3
              try clear hcz21_4
              try clear hcz22_0
              try clear hcz22_1
              try clear hcz22_2
              try clear hcz22_3
              try clear hcz22_4
              try clear hcz7_0
              try clear hcz7_1
              try clear hcz7_2
              try clear hcz7_3
              try clear hcz7_4
              try clear hcz8_0
              try clear hcz8_1
              try clear hcz8_2
              try clear hcz8_3
              try clear hcz8_4
              try clear hfz13_0
              try clear hfz13_1
              try clear hfz13_2
              try clear hfz13_3
              try clear hfz13_4
              try clear hfz17_0
              try clear hfz17_1
              try clear hfz17_2
              try clear hfz17_3
              try clear hfz17_4
              try clear hfz18_0
              try clear hfz18_1
              try clear hfz18_2
              try clear hfz18_3
              try clear hfz18_4
              try clear hfz21_0
              try clear hfz21_1
              try clear hfz21_2
              try clear hfz21_3
              try clear hfz21_4
              try clear hfz22_0
              try clear hfz22_1
              try clear hfz22_2
              try clear hfz22_3
              try clear hfz22_4
              try clear hfz7_0
              try clear hfz7_1
              try clear hfz7_2
              try clear hfz7_3
              try clear hfz7_4
              try clear hfz8_0
              try clear hfz8_1
              try clear hfz8_2
              try clear hfz8_3
              try clear hfz8_4
              try clear p2
              obtain ⟨kq, x32_22, rfl, HA, HJ22, BK140, BK141, HB⟩ := hcut
              cases kq with
              | zero => exact absurd HA.out (by simp [insn_without.j1])
              | succ kj22 =>
                have H := HA.out
                clear HA
                simp only [insn_without.j1] at H
                by_cases c25 : x32_22 = true
                · subst c25
                  have H1 : ((insn_Kind.f a0_0).bind fun t143 => (if t143 = 128 then (some (a0_0, 0, a0_2, a0_3, a0_4)) else ((insn_ByReg.f a0_0).bind fun t144 => (if t144 = true then (some (a0_0, 0, 0, a0_3, a0_4)) else (some (a0_0, 0, a0_2, a0_3, 0)))))) = some (r1, r2, r3, r4, r5) := by rw [if_pos rfl] at H; exact H
                  clear H
                  have H := H1
                  clear H1
                  replace H := Option.bind_eq_some_iff.mp H
                  obtain ⟨t143, A260, H⟩ := H
                  replace H : (if t143 = 128 then (some (a0_0, 0, a0_2, a0_3, a0_4)) else ((insn_ByReg.f a0_0).bind fun t144 => (if t144 = true then (some (a0_0, 0, 0, a0_3, a0_4)) else (some (a0_0, 0, a0_2, a0_3, 0))))) = some (r1, r2, r3, r4, r5) := H
                  have A26 := Aside0.mk A260
                  clear A260
                  by_cases c27 : t143 = 128
                  · rw [if_pos c27] at H
                    have c27b0 : (t143 == 128) = true := beq_iff_eq.mpr c27
                    have c27b1 : (t143 != 128) = false := bne_eq_false_iff_eq.mpr c27
                    clear c27
                    simp only [Option.some.injEq, Prod.mk.injEq] at H
                    obtain ⟨rfl, rfl, rfl, rfl, rfl⟩ := H
                    have hnb28 := NB140_141.out
                    have hnc28 := NB141_140.out
                    have hcz29_0 : wc.cell? ⟨gb140, 0, none⟩ = some (.int .u8 a0_0) := (blk_cell BK140.out 0).trans rfl
                    have hcz29_1 : wc.cell? ⟨gb140, 1, none⟩ = some (.int .u8 a0_1) := (blk_cell BK140.out 1).trans rfl
                    have hcz29_2 : wc.cell? ⟨gb140, 2, none⟩ = some (.int .u8 a0_2) := (blk_cell BK140.out 2).trans rfl
                    have hcz29_3 : wc.cell? ⟨gb140, 3, none⟩ = some (.int .i16 a0_3) := (blk_cell BK140.out 3).trans rfl
                    have hcz29_4 : wc.cell? ⟨gb140, 4, none⟩ = some (.int .i32 a0_4) := (blk_cell BK140.out 4).trans rfl
                    have hfz29_0 := blk_frozen BK140.out 0
                    have hfz29_1 := blk_frozen BK140.out 1
                    have hfz29_2 := blk_frozen BK140.out 2
                    have hfz29_3 := blk_frozen BK140.out 3
                    have hfz29_4 := blk_frozen BK140.out 4
                    go_wp2_with (first | ((with_reducible refine gate_callee (f := 20) rfl ?_); refine goesL_ (some 44) rfl rfl Try.func20 (by kernel_rfl) rfl #[.int .u8 a0_0] rfl (by (try simp only [List.map_toArray, List.map_cons, List.map_nil]); first | done | rfl | (simp only [List.length_drop, List.length_take]; rfl)) ?_; (with_reducible refine (insn_Kind.calls a0_0 t143 _ A26.out).mono ?_); rintro e w' ⟨rfl, ⟨nd, rfl⟩⟩; refine ⟨_, rfl, ?_⟩; have hcz30_0 : wc.cell? ⟨gb141, 0, none⟩ = some (.int .u8 0) := (blk_cell BK141.out 0).trans rfl; have hcz30_1 : wc.cell? ⟨gb141, 1, none⟩ = some (.int .u8 0) := (blk_cell BK141.out 1).trans rfl; have hcz30_2 : wc.cell? ⟨gb141, 2, none⟩ = some (.int .u8 0) := (blk_cell BK141.out 2).trans rfl; have hcz30_3 : wc.cell? ⟨gb141, 3, none⟩ = some (.int .i16 0) := (blk_cell BK141.out 3).trans rfl; have hcz30_4 : wc.cell? ⟨gb141, 4, none⟩ = some (.int .i32 0) := (blk_cell BK141.out 4).trans rfl; have hfz30_0 := blk_frozen BK141.out 0; have hfz30_1 := blk_frozen BK141.out 1; have hfz30_2 := blk_frozen BK141.out 2; have hfz30_3 := blk_frozen BK141.out 3; have hfz30_4 := blk_frozen BK141.out 4))
                    refine bodyPost_ret (results_cell_row rfl _ _ gb141 24 #[.int .u8 a0_0, .int .u8 0, .int .u8 a0_2, .int .i16 a0_3, .int .i32 a0_4] (0, 0) _ rfl (by (with_reducible repeat (first | refine blk_drewN ?_ _ | refine blk_drew ?_ | refine blk_alloc ?_ _)); refine blk_put (cs := #[.int .u8 a0_0, .int .u8 0, .int .u8 a0_2, .int .i16 a0_3, .int .i32 0]) ?_ 4 _ rfl; (with_reducible repeat (first | refine blk_drewN ?_ _ | refine blk_drew ?_ | refine blk_alloc ?_ _)); refine blk_put (cs := #[.int .u8 a0_0, .int .u8 0, .int .u8 a0_2, .int .i16 0, .int .i32 0]) ?_ 3 _ rfl; (with_reducible repeat (first | refine blk_drewN ?_ _ | refine blk_drew ?_ | refine blk_alloc ?_ _)); refine blk_put (cs := #[.int .u8 a0_0, .int .u8 0, .int .u8 0, .int .i16 0, .int .i32 0]) ?_ 2 _ rfl; (with_reducible repeat (first | refine blk_drewN ?_ _ | refine blk_drew ?_ | refine blk_alloc ?_ _)); refine blk_put (cs := #[.int .u8 a0_0, .int .u8 0, .int .u8 0, .int .i16 0, .int .i32 0]) ?_ 1 _ rfl; (with_reducible repeat (first | refine blk_drewN ?_ _ | refine blk_drew ?_ | refine blk_alloc ?_ _)); refine blk_put (cs := #[.int .u8 0, .int .u8 0, .int .u8 0, .int .i16 0, .int .i32 0]) ?_ 0 _ rfl; (with_reducible repeat (first | refine blk_drewN ?_ _ | refine blk_drew ?_ | refine blk_alloc ?_ _)); refine blk_far ?_ NB141_140.out _; (with_reducible repeat (first | refine blk_drewN ?_ _ | refine blk_drew ?_ | refine blk_alloc ?_ _)); exact BK141.out) Try.underlying24 rfl (by kernel_rfl)) rfl ?_
                    exact ⟨by first | rfl | (simp [errW_none, errW_some] <;> rfl) | (simp [*, errW_none, errW_some] <;> rfl), by repeat (first | (with_reducible first | exact HB.out | apply below_alloc | apply pw_below_drewN | apply below_drew1 | refine below_set ?_ GE140.out | refine below_set ?_ GE141.out) | exact HB.out)⟩
                  · rw [if_neg c27] at H
                    have c27b0 : (t143 == 128) = false := beq_eq_false_iff_ne.mpr c27
                    have c27b1 : (t143 != 128) = true := bne_iff_ne.mpr c27
                    replace H := Option.bind_eq_some_iff.mp H
                    obtain ⟨t144, A310, H⟩ := H
                    replace H : (if t144 = true then (some (a0_0, 0, 0, a0_3, a0_4)) else (some (a0_0, 0, a0_2, a0_3, 0))) = some (r1, r2, r3, r4, r5) := H
                    have A31 := Aside0.mk A310
                    clear A310
                    by_cases c32 : t144 = true
                    · subst c32
                      have H1 : (some (a0_0, 0, 0, a0_3, a0_4)) = some (r1, r2, r3, r4, r5) := by rw [if_pos rfl] at H; exact H
                      clear H
                      have H := H1
                      clear H1
                      simp only [Option.some.injEq, Prod.mk.injEq] at H
                      obtain ⟨rfl, rfl, rfl, rfl, rfl⟩ := H
                      have hnb33 := NB140_141.out
                      have hnc33 := NB141_140.out
                      have hcz34_0 : wc.cell? ⟨gb140, 0, none⟩ = some (.int .u8 a0_0) := (blk_cell BK140.out 0).trans rfl
                      have hcz34_1 : wc.cell? ⟨gb140, 1, none⟩ = some (.int .u8 a0_1) := (blk_cell BK140.out 1).trans rfl
                      have hcz34_2 : wc.cell? ⟨gb140, 2, none⟩ = some (.int .u8 a0_2) := (blk_cell BK140.out 2).trans rfl
                      have hcz34_3 : wc.cell? ⟨gb140, 3, none⟩ = some (.int .i16 a0_3) := (blk_cell BK140.out 3).trans rfl
                      have hcz34_4 : wc.cell? ⟨gb140, 4, none⟩ = some (.int .i32 a0_4) := (blk_cell BK140.out 4).trans rfl
                      have hfz34_0 := blk_frozen BK140.out 0
                      have hfz34_1 := blk_frozen BK140.out 1
                      have hfz34_2 := blk_frozen BK140.out 2
                      have hfz34_3 := blk_frozen BK140.out 3
                      have hfz34_4 := blk_frozen BK140.out 4
                      go_wp2_with (first | ((with_reducible refine gate_callee (f := 20) rfl ?_); refine goesL_ (some 44) rfl rfl Try.func20 (by kernel_rfl) rfl #[.int .u8 a0_0] rfl (by (try simp only [List.map_toArray, List.map_cons, List.map_nil]); first | done | rfl | (simp only [List.length_drop, List.length_take]; rfl)) ?_; (with_reducible refine (insn_Kind.calls a0_0 t143 _ A26.out).mono ?_); rintro e w' ⟨rfl, ⟨nd, rfl⟩⟩; refine ⟨_, rfl, ?_⟩) | ((with_reducible refine gate_callee (f := 21) rfl ?_); refine goesL_ (some 49) rfl rfl Try.func21 (by kernel_rfl) rfl #[.int .u8 a0_0] rfl (by (try simp only [List.map_toArray, List.map_cons, List.map_nil]); first | done | rfl | (simp only [List.length_drop, List.length_take]; rfl)) ?_; (with_reducible refine (insn_ByReg.calls a0_0 true _ A31.out).mono ?_); rintro e w' ⟨rfl, ⟨nd, rfl⟩⟩; refine ⟨_, rfl, ?_⟩; have hcz35_0 : wc.cell? ⟨gb141, 0, none⟩ = some (.int .u8 0) := (blk_cell BK141.out 0).trans rfl; have hcz35_1 : wc.cell? ⟨gb141, 1, none⟩ = some (.int .u8 0) := (blk_cell BK141.out 1).trans rfl; have hcz35_2 : wc.cell? ⟨gb141, 2, none⟩ = some (.int .u8 0) := (blk_cell BK141.out 2).trans rfl; have hcz35_3 : wc.cell? ⟨gb141, 3, none⟩ = some (.int .i16 0) := (blk_cell BK141.out 3).trans rfl; have hcz35_4 : wc.cell? ⟨gb141, 4, none⟩ = some (.int .i32 0) := (blk_cell BK141.out 4).trans rfl; have hfz35_0 := blk_frozen BK141.out 0; have hfz35_1 := blk_frozen BK141.out 1; have hfz35_2 := blk_frozen BK141.out 2; have hfz35_3 := blk_frozen BK141.out 3; have hfz35_4 := blk_frozen BK141.out 4))
                      refine bodyPost_ret (results_cell_row rfl _ _ gb141 24 #[.int .u8 a0_0, .int .u8 0, .int .u8 0, .int .i16 a0_3, .int .i32 a0_4] (0, 0) _ rfl (by (with_reducible repeat (first | refine blk_drewN ?_ _ | refine blk_drew ?_ | refine blk_alloc ?_ _)); refine blk_put (cs := #[.int .u8 a0_0, .int .u8 0, .int .u8 0, .int .i16 a0_3, .int .i32 0]) ?_ 4 _ rfl; (with_reducible repeat (first | refine blk_drewN ?_ _ | refine blk_drew ?_ | refine blk_alloc ?_ _)); refine blk_put (cs := #[.int .u8 a0_0, .int .u8 0, .int .u8 0, .int .i16 0, .int .i32 0]) ?_ 3 _ rfl; (with_reducible repeat (first | refine blk_drewN ?_ _ | refine blk_drew ?_ | refine blk_alloc ?_ _)); refine blk_put (cs := #[.int .u8 a0_0, .int .u8 0, .int .u8 0, .int .i16 0, .int .i32 0]) ?_ 2 _ rfl; (with_reducible repeat (first | refine blk_drewN ?_ _ | refine blk_drew ?_ | refine blk_alloc ?_ _)); refine blk_put (cs := #[.int .u8 a0_0, .int .u8 0, .int .u8 0, .int .i16 0, .int .i32 0]) ?_ 1 _ rfl; (with_reducible repeat (first | refine blk_drewN ?_ _ | refine blk_drew ?_ | refine blk_alloc ?_ _)); refine blk_put (cs := #[.int .u8 0, .int .u8 0, .int .u8 0, .int .i16 0, .int .i32 0]) ?_ 0 _ rfl; (with_reducible repeat (first | refine blk_drewN ?_ _ | refine blk_drew ?_ | refine blk_alloc ?_ _)); refine blk_far ?_ NB141_140.out _; (with_reducible repeat (first | refine blk_drewN ?_ _ | refine blk_drew ?_ | refine blk_alloc ?_ _)); refine blk_far ?_ NB141_140.out _; (with_reducible repeat (first | refine blk_drewN ?_ _ | refine blk_drew ?_ | refine blk_alloc ?_ _)); exact BK141.out) Try.underlying24 rfl (by kernel_rfl)) rfl ?_
                      exact ⟨by first | rfl | (simp [errW_none, errW_some] <;> rfl) | (simp [*, errW_none, errW_some] <;> rfl), by repeat (first | (with_reducible first | exact HB.out | apply below_alloc | apply pw_below_drewN | apply below_drew1 | refine below_set ?_ GE140.out | refine below_set ?_ GE141.out) | exact HB.out)⟩
                    · replace c32 := Bool.eq_false_iff.mpr c32
                      subst c32
                      have H1 : (some (a0_0, 0, a0_2, a0_3, 0)) = some (r1, r2, r3, r4, r5) := by rw [if_neg (show ¬ (false = true) by decide)] at H; exact H
                      clear H
                      have H := H1
                      clear H1
                      simp only [Option.some.injEq, Prod.mk.injEq] at H
                      obtain ⟨rfl, rfl, rfl, rfl, rfl⟩ := H
                      have hnb36 := NB140_141.out
                      have hnc36 := NB141_140.out
                      have hcz37_0 : wc.cell? ⟨gb140, 0, none⟩ = some (.int .u8 a0_0) := (blk_cell BK140.out 0).trans rfl
                      have hcz37_1 : wc.cell? ⟨gb140, 1, none⟩ = some (.int .u8 a0_1) := (blk_cell BK140.out 1).trans rfl
                      have hcz37_2 : wc.cell? ⟨gb140, 2, none⟩ = some (.int .u8 a0_2) := (blk_cell BK140.out 2).trans rfl
                      have hcz37_3 : wc.cell? ⟨gb140, 3, none⟩ = some (.int .i16 a0_3) := (blk_cell BK140.out 3).trans rfl
                      have hcz37_4 : wc.cell? ⟨gb140, 4, none⟩ = some (.int .i32 a0_4) := (blk_cell BK140.out 4).trans rfl
                      have hfz37_0 := blk_frozen BK140.out 0
                      have hfz37_1 := blk_frozen BK140.out 1
                      have hfz37_2 := blk_frozen BK140.out 2
                      have hfz37_3 := blk_frozen BK140.out 3
                      have hfz37_4 := blk_frozen BK140.out 4
                      go_wp2_with (first | ((with_reducible refine gate_callee (f := 20) rfl ?_); refine goesL_ (some 44) rfl rfl Try.func20 (by kernel_rfl) rfl #[.int .u8 a0_0] rfl (by (try simp only [List.map_toArray, List.map_cons, List.map_nil]); first | done | rfl | (simp only [List.length_drop, List.length_take]; rfl)) ?_; (with_reducible refine (insn_Kind.calls a0_0 t143 _ A26.out).mono ?_); rintro e w' ⟨rfl, ⟨nd, rfl⟩⟩; refine ⟨_, rfl, ?_⟩) | ((with_reducible refine gate_callee (f := 21) rfl ?_); refine goesL_ (some 49) rfl rfl Try.func21 (by kernel_rfl) rfl #[.int .u8 a0_0] rfl (by (try simp only [List.map_toArray, List.map_cons, List.map_nil]); first | done | rfl | (simp only [List.length_drop, List.length_take]; rfl)) ?_; (with_reducible refine (insn_ByReg.calls a0_0 false _ A31.out).mono ?_); rintro e w' ⟨rfl, ⟨nd, rfl⟩⟩; refine ⟨_, rfl, ?_⟩; have hcz38_0 : wc.cell? ⟨gb141, 0, none⟩ = some (.int .u8 0) := (blk_cell BK141.out 0).trans rfl; have hcz38_1 : wc.cell? ⟨gb141, 1, none⟩ = some (.int .u8 0) := (blk_cell BK141.out 1).trans rfl; have hcz38_2 : wc.cell? ⟨gb141, 2, none⟩ = some (.int .u8 0) := (blk_cell BK141.out 2).trans rfl; have hcz38_3 : wc.cell? ⟨gb141, 3, none⟩ = some (.int .i16 0) := (blk_cell BK141.out 3).trans rfl; have hcz38_4 : wc.cell? ⟨gb141, 4, none⟩ = some (.int .i32 0) := (blk_cell BK141.out 4).trans rfl; have hfz38_0 := blk_frozen BK141.out 0; have hfz38_1 := blk_frozen BK141.out 1; have hfz38_2 := blk_frozen BK141.out 2; have hfz38_3 := blk_frozen BK141.out 3; have hfz38_4 := blk_frozen BK141.out 4))
                      refine bodyPost_ret (results_cell_row rfl _ _ gb141 24 #[.int .u8 a0_0, .int .u8 0, .int .u8 a0_2, .int .i16 a0_3, .int .i32 0] (0, 0) _ rfl (by (with_reducible repeat (first | refine blk_drewN ?_ _ | refine blk_drew ?_ | refine blk_alloc ?_ _)); refine blk_put (cs := #[.int .u8 a0_0, .int .u8 0, .int .u8 a0_2, .int .i16 a0_3, .int .i32 0]) ?_ 4 _ rfl; (with_reducible repeat (first | refine blk_drewN ?_ _ | refine blk_drew ?_ | refine blk_alloc ?_ _)); refine blk_put (cs := #[.int .u8 a0_0, .int .u8 0, .int .u8 a0_2, .int .i16 0, .int .i32 0]) ?_ 3 _ rfl; (with_reducible repeat (first | refine blk_drewN ?_ _ | refine blk_drew ?_ | refine blk_alloc ?_ _)); refine blk_put (cs := #[.int .u8 a0_0, .int .u8 0, .int .u8 0, .int .i16 0, .int .i32 0]) ?_ 2 _ rfl; (with_reducible repeat (first | refine blk_drewN ?_ _ | refine blk_drew ?_ | refine blk_alloc ?_ _)); refine blk_put (cs := #[.int .u8 a0_0, .int .u8 0, .int .u8 0, .int .i16 0, .int .i32 0]) ?_ 1 _ rfl; (with_reducible repeat (first | refine blk_drewN ?_ _ | refine blk_drew ?_ | refine blk_alloc ?_ _)); refine blk_put (cs := #[.int .u8 0, .int .u8 0, .int .u8 0, .int .i16 0, .int .i32 0]) ?_ 0 _ rfl; (with_reducible repeat (first | refine blk_drewN ?_ _ | refine blk_drew ?_ | refine blk_alloc ?_ _)); refine blk_far ?_ NB141_140.out _; (with_reducible repeat (first | refine blk_drewN ?_ _ | refine blk_drew ?_ | refine blk_alloc ?_ _)); refine blk_far ?_ NB141_140.out _; (with_reducible repeat (first | refine blk_drewN ?_ _ | refine blk_drew ?_ | refine blk_alloc ?_ _)); exact BK141.out) Try.underlying24 rfl (by kernel_rfl)) rfl ?_
                      exact ⟨by first | rfl | (simp [errW_none, errW_some] <;> rfl) | (simp [*, errW_none, errW_some] <;> rfl), by repeat (first | (with_reducible first | exact HB.out | apply below_alloc | apply pw_below_drewN | apply below_drew1 | refine below_set ?_ GE140.out | refine below_set ?_ GE141.out) | exact HB.out)⟩
                · replace c25 := Bool.eq_false_iff.mpr c25
                  subst c25
                  have H1 : (if a0_0 = 5 then (some (a0_0, a0_1, a0_2, 0, a0_4)) else (if a0_0 = 133 then (some (a0_0, a0_1, 0, a0_3, 0)) else (if a0_0 = 149 then (some (a0_0, a0_1, a0_2, a0_3, a0_4)) else ((insn_ByReg.f a0_0).bind fun t145 => (if t145 = true then (some (a0_0, 0, 0, 0, a0_4)) else (some (a0_0, 0, a0_2, 0, 0))))))) = some (r1, r2, r3, r4, r5) := by rw [if_neg (show ¬ (false = true) by decide)] at H; exact H
                  clear H
                  have H := H1
                  clear H1
                  by_cases c39 : a0_0 = 5
                  · rw [if_pos c39] at H
                    have c39b0 : (a0_0 == 5) = true := beq_iff_eq.mpr c39
                    have c39b1 : (a0_0 != 5) = false := bne_eq_false_iff_eq.mpr c39
                    clear c39
                    simp only [Option.some.injEq, Prod.mk.injEq] at H
                    obtain ⟨rfl, rfl, rfl, rfl, rfl⟩ := H
                    have hnb40 := NB140_141.out
                    have hnc40 := NB141_140.out
                    have hcz41_0 : wc.cell? ⟨gb140, 0, none⟩ = some (.int .u8 a0_0) := (blk_cell BK140.out 0).trans rfl
                    have hcz41_1 : wc.cell? ⟨gb140, 1, none⟩ = some (.int .u8 a0_1) := (blk_cell BK140.out 1).trans rfl
                    have hcz41_2 : wc.cell? ⟨gb140, 2, none⟩ = some (.int .u8 a0_2) := (blk_cell BK140.out 2).trans rfl
                    have hcz41_3 : wc.cell? ⟨gb140, 3, none⟩ = some (.int .i16 a0_3) := (blk_cell BK140.out 3).trans rfl
                    have hcz41_4 : wc.cell? ⟨gb140, 4, none⟩ = some (.int .i32 a0_4) := (blk_cell BK140.out 4).trans rfl
                    have hfz41_0 := blk_frozen BK140.out 0
                    have hfz41_1 := blk_frozen BK140.out 1
                    have hfz41_2 := blk_frozen BK140.out 2
                    have hfz41_3 := blk_frozen BK140.out 3
                    have hfz41_4 := blk_frozen BK140.out 4
                    have hcz42_0 : wc.cell? ⟨gb141, 0, none⟩ = some (.int .u8 0) := (blk_cell BK141.out 0).trans rfl
                    have hcz42_1 : wc.cell? ⟨gb141, 1, none⟩ = some (.int .u8 0) := (blk_cell BK141.out 1).trans rfl
                    have hcz42_2 : wc.cell? ⟨gb141, 2, none⟩ = some (.int .u8 0) := (blk_cell BK141.out 2).trans rfl
                    have hcz42_3 : wc.cell? ⟨gb141, 3, none⟩ = some (.int .i16 0) := (blk_cell BK141.out 3).trans rfl
                    have hcz42_4 : wc.cell? ⟨gb141, 4, none⟩ = some (.int .i32 0) := (blk_cell BK141.out 4).trans rfl
                    have hfz42_0 := blk_frozen BK141.out 0
                    have hfz42_1 := blk_frozen BK141.out 1
                    have hfz42_2 := blk_frozen BK141.out 2
                    have hfz42_3 := blk_frozen BK141.out 3
                    have hfz42_4 := blk_frozen BK141.out 4
                    go_wp2
                    refine bodyPost_ret (results_cell_row rfl _ _ gb141 24 #[.int .u8 a0_0, .int .u8 a0_1, .int .u8 a0_2, .int .i16 0, .int .i32 a0_4] (0, 0) _ rfl (by (with_reducible repeat (first | refine blk_drewN ?_ _ | refine blk_drew ?_ | refine blk_alloc ?_ _)); refine blk_put (cs := #[.int .u8 a0_0, .int .u8 a0_1, .int .u8 a0_2, .int .i16 0, .int .i32 0]) ?_ 4 _ rfl; (with_reducible repeat (first | refine blk_drewN ?_ _ | refine blk_drew ?_ | refine blk_alloc ?_ _)); refine blk_put (cs := #[.int .u8 a0_0, .int .u8 a0_1, .int .u8 a0_2, .int .i16 0, .int .i32 0]) ?_ 3 _ rfl; (with_reducible repeat (first | refine blk_drewN ?_ _ | refine blk_drew ?_ | refine blk_alloc ?_ _)); refine blk_put (cs := #[.int .u8 a0_0, .int .u8 a0_1, .int .u8 0, .int .i16 0, .int .i32 0]) ?_ 2 _ rfl; (with_reducible repeat (first | refine blk_drewN ?_ _ | refine blk_drew ?_ | refine blk_alloc ?_ _)); refine blk_put (cs := #[.int .u8 a0_0, .int .u8 0, .int .u8 0, .int .i16 0, .int .i32 0]) ?_ 1 _ rfl; (with_reducible repeat (first | refine blk_drewN ?_ _ | refine blk_drew ?_ | refine blk_alloc ?_ _)); refine blk_put (cs := #[.int .u8 0, .int .u8 0, .int .u8 0, .int .i16 0, .int .i32 0]) ?_ 0 _ rfl; (with_reducible repeat (first | refine blk_drewN ?_ _ | refine blk_drew ?_ | refine blk_alloc ?_ _)); refine blk_far ?_ NB141_140.out _; (with_reducible repeat (first | refine blk_drewN ?_ _ | refine blk_drew ?_ | refine blk_alloc ?_ _)); exact BK141.out) Try.underlying24 rfl (by kernel_rfl)) rfl ?_
                    exact ⟨by first | rfl | (simp [errW_none, errW_some] <;> rfl) | (simp [*, errW_none, errW_some] <;> rfl), by repeat (first | (with_reducible first | exact HB.out | apply below_alloc | apply pw_below_drewN | apply below_drew1 | refine below_set ?_ GE140.out | refine below_set ?_ GE141.out) | exact HB.out)⟩
                  · rw [if_neg c39] at H
                    have c39b0 : (a0_0 == 5) = false := beq_eq_false_iff_ne.mpr c39
                    have c39b1 : (a0_0 != 5) = true := bne_iff_ne.mpr c39
                    by_cases c43 : a0_0 = 133
                    · rw [if_pos c43] at H
                      have c43b0 : (a0_0 == 133) = true := beq_iff_eq.mpr c43
                      have c43b1 : (a0_0 != 133) = false := bne_eq_false_iff_eq.mpr c43
                      clear c43
                      simp only [Option.some.injEq, Prod.mk.injEq] at H
                      obtain ⟨rfl, rfl, rfl, rfl, rfl⟩ := H
                      have hnb44 := NB140_141.out
                      have hnc44 := NB141_140.out
                      have hcz45_0 : wc.cell? ⟨gb140, 0, none⟩ = some (.int .u8 a0_0) := (blk_cell BK140.out 0).trans rfl
                      have hcz45_1 : wc.cell? ⟨gb140, 1, none⟩ = some (.int .u8 a0_1) := (blk_cell BK140.out 1).trans rfl
                      have hcz45_2 : wc.cell? ⟨gb140, 2, none⟩ = some (.int .u8 a0_2) := (blk_cell BK140.out 2).trans rfl
                      have hcz45_3 : wc.cell? ⟨gb140, 3, none⟩ = some (.int .i16 a0_3) := (blk_cell BK140.out 3).trans rfl
                      have hcz45_4 : wc.cell? ⟨gb140, 4, none⟩ = some (.int .i32 a0_4) := (blk_cell BK140.out 4).trans rfl
                      have hfz45_0 := blk_frozen BK140.out 0
                      have hfz45_1 := blk_frozen BK140.out 1
                      have hfz45_2 := blk_frozen BK140.out 2
                      have hfz45_3 := blk_frozen BK140.out 3
                      have hfz45_4 := blk_frozen BK140.out 4
                      have hcz46_0 : wc.cell? ⟨gb141, 0, none⟩ = some (.int .u8 0) := (blk_cell BK141.out 0).trans rfl
                      have hcz46_1 : wc.cell? ⟨gb141, 1, none⟩ = some (.int .u8 0) := (blk_cell BK141.out 1).trans rfl
                      have hcz46_2 : wc.cell? ⟨gb141, 2, none⟩ = some (.int .u8 0) := (blk_cell BK141.out 2).trans rfl
                      have hcz46_3 : wc.cell? ⟨gb141, 3, none⟩ = some (.int .i16 0) := (blk_cell BK141.out 3).trans rfl
                      have hcz46_4 : wc.cell? ⟨gb141, 4, none⟩ = some (.int .i32 0) := (blk_cell BK141.out 4).trans rfl
                      have hfz46_0 := blk_frozen BK141.out 0
                      have hfz46_1 := blk_frozen BK141.out 1
                      have hfz46_2 := blk_frozen BK141.out 2
                      have hfz46_3 := blk_frozen BK141.out 3
                      have hfz46_4 := blk_frozen BK141.out 4
                      go_wp2
                      refine bodyPost_ret (results_cell_row rfl _ _ gb141 24 #[.int .u8 a0_0, .int .u8 a0_1, .int .u8 0, .int .i16 a0_3, .int .i32 0] (0, 0) _ rfl (by (with_reducible repeat (first | refine blk_drewN ?_ _ | refine blk_drew ?_ | refine blk_alloc ?_ _)); refine blk_put (cs := #[.int .u8 a0_0, .int .u8 a0_1, .int .u8 0, .int .i16 a0_3, .int .i32 0]) ?_ 4 _ rfl; (with_reducible repeat (first | refine blk_drewN ?_ _ | refine blk_drew ?_ | refine blk_alloc ?_ _)); refine blk_put (cs := #[.int .u8 a0_0, .int .u8 a0_1, .int .u8 0, .int .i16 0, .int .i32 0]) ?_ 3 _ rfl; (with_reducible repeat (first | refine blk_drewN ?_ _ | refine blk_drew ?_ | refine blk_alloc ?_ _)); refine blk_put (cs := #[.int .u8 a0_0, .int .u8 a0_1, .int .u8 0, .int .i16 0, .int .i32 0]) ?_ 2 _ rfl; (with_reducible repeat (first | refine blk_drewN ?_ _ | refine blk_drew ?_ | refine blk_alloc ?_ _)); refine blk_put (cs := #[.int .u8 a0_0, .int .u8 0, .int .u8 0, .int .i16 0, .int .i32 0]) ?_ 1 _ rfl; (with_reducible repeat (first | refine blk_drewN ?_ _ | refine blk_drew ?_ | refine blk_alloc ?_ _)); refine blk_put (cs := #[.int .u8 0, .int .u8 0, .int .u8 0, .int .i16 0, .int .i32 0]) ?_ 0 _ rfl; (with_reducible repeat (first | refine blk_drewN ?_ _ | refine blk_drew ?_ | refine blk_alloc ?_ _)); refine blk_far ?_ NB141_140.out _; (with_reducible repeat (first | refine blk_drewN ?_ _ | refine blk_drew ?_ | refine blk_alloc ?_ _)); refine blk_far ?_ NB141_140.out _; (with_reducible repeat (first | refine blk_drewN ?_ _ | refine blk_drew ?_ | refine blk_alloc ?_ _)); exact BK141.out) Try.underlying24 rfl (by kernel_rfl)) rfl ?_
                      exact ⟨by first | rfl | (simp [errW_none, errW_some] <;> rfl) | (simp [*, errW_none, errW_some] <;> rfl), by repeat (first | (with_reducible first | exact HB.out | apply below_alloc | apply pw_below_drewN | apply below_drew1 | refine below_set ?_ GE140.out | refine below_set ?_ GE141.out) | exact HB.out)⟩
                    · rw [if_neg c43] at H
                      have c43b0 : (a0_0 == 133) = false := beq_eq_false_iff_ne.mpr c43
                      have c43b1 : (a0_0 != 133) = true := bne_iff_ne.mpr c43
                      by_cases c47 : a0_0 = 149
                      · rw [if_pos c47] at H
                        have c47b0 : (a0_0 == 149) = true := beq_iff_eq.mpr c47
                        have c47b1 : (a0_0 != 149) = false := bne_eq_false_iff_eq.mpr c47
                        clear c47
                        simp only [Option.some.injEq, Prod.mk.injEq] at H
                        obtain ⟨rfl, rfl, rfl, rfl, rfl⟩ := H
                        have hnb48 := NB140_141.out
                        have hnc48 := NB141_140.out
                        have hcz49_0 : wc.cell? ⟨gb140, 0, none⟩ = some (.int .u8 a0_0) := (blk_cell BK140.out 0).trans rfl
                        have hcz49_1 : wc.cell? ⟨gb140, 1, none⟩ = some (.int .u8 a0_1) := (blk_cell BK140.out 1).trans rfl
                        have hcz49_2 : wc.cell? ⟨gb140, 2, none⟩ = some (.int .u8 a0_2) := (blk_cell BK140.out 2).trans rfl
                        have hcz49_3 : wc.cell? ⟨gb140, 3, none⟩ = some (.int .i16 a0_3) := (blk_cell BK140.out 3).trans rfl
                        have hcz49_4 : wc.cell? ⟨gb140, 4, none⟩ = some (.int .i32 a0_4) := (blk_cell BK140.out 4).trans rfl
                        have hfz49_0 := blk_frozen BK140.out 0
                        have hfz49_1 := blk_frozen BK140.out 1
                        have hfz49_2 := blk_frozen BK140.out 2
                        have hfz49_3 := blk_frozen BK140.out 3
                        have hfz49_4 := blk_frozen BK140.out 4
                        have hcz50_0 : wc.cell? ⟨gb141, 0, none⟩ = some (.int .u8 0) := (blk_cell BK141.out 0).trans rfl
                        have hcz50_1 : wc.cell? ⟨gb141, 1, none⟩ = some (.int .u8 0) := (blk_cell BK141.out 1).trans rfl
                        have hcz50_2 : wc.cell? ⟨gb141, 2, none⟩ = some (.int .u8 0) := (blk_cell BK141.out 2).trans rfl
                        have hcz50_3 : wc.cell? ⟨gb141, 3, none⟩ = some (.int .i16 0) := (blk_cell BK141.out 3).trans rfl
                        have hcz50_4 : wc.cell? ⟨gb141, 4, none⟩ = some (.int .i32 0) := (blk_cell BK141.out 4).trans rfl
                        have hfz50_0 := blk_frozen BK141.out 0
                        have hfz50_1 := blk_frozen BK141.out 1
                        have hfz50_2 := blk_frozen BK141.out 2
                        have hfz50_3 := blk_frozen BK141.out 3
                        have hfz50_4 := blk_frozen BK141.out 4
                        go_wp2
                        refine bodyPost_ret (results_cell_row rfl _ _ gb141 24 #[.int .u8 a0_0, .int .u8 a0_1, .int .u8 a0_2, .int .i16 a0_3, .int .i32 a0_4] (0, 0) _ rfl (by (with_reducible repeat (first | refine blk_drewN ?_ _ | refine blk_drew ?_ | refine blk_alloc ?_ _)); refine blk_put (cs := #[.int .u8 a0_0, .int .u8 a0_1, .int .u8 a0_2, .int .i16 a0_3, .int .i32 0]) ?_ 4 _ rfl; (with_reducible repeat (first | refine blk_drewN ?_ _ | refine blk_drew ?_ | refine blk_alloc ?_ _)); refine blk_put (cs := #[.int .u8 a0_0, .int .u8 a0_1, .int .u8 a0_2, .int .i16 0, .int .i32 0]) ?_ 3 _ rfl; (with_reducible repeat (first | refine blk_drewN ?_ _ | refine blk_drew ?_ | refine blk_alloc ?_ _)); refine blk_put (cs := #[.int .u8 a0_0, .int .u8 a0_1, .int .u8 0, .int .i16 0, .int .i32 0]) ?_ 2 _ rfl; (with_reducible repeat (first | refine blk_drewN ?_ _ | refine blk_drew ?_ | refine blk_alloc ?_ _)); refine blk_put (cs := #[.int .u8 a0_0, .int .u8 0, .int .u8 0, .int .i16 0, .int .i32 0]) ?_ 1 _ rfl; (with_reducible repeat (first | refine blk_drewN ?_ _ | refine blk_drew ?_ | refine blk_alloc ?_ _)); refine blk_put (cs := #[.int .u8 0, .int .u8 0, .int .u8 0, .int .i16 0, .int .i32 0]) ?_ 0 _ rfl; (with_reducible repeat (first | refine blk_drewN ?_ _ | refine blk_drew ?_ | refine blk_alloc ?_ _)); exact BK141.out) Try.underlying24 rfl (by kernel_rfl)) rfl ?_
                        exact ⟨by first | rfl | (simp [errW_none, errW_some] <;> rfl) | (simp [*, errW_none, errW_some] <;> rfl), by repeat (first | (with_reducible first | exact HB.out | apply below_alloc | apply pw_below_drewN | apply below_drew1 | refine below_set ?_ GE140.out | refine below_set ?_ GE141.out) | exact HB.out)⟩
                      · rw [if_neg c47] at H
                        have c47b0 : (a0_0 == 149) = false := beq_eq_false_iff_ne.mpr c47
                        have c47b1 : (a0_0 != 149) = true := bne_iff_ne.mpr c47
                        replace H := Option.bind_eq_some_iff.mp H
                        obtain ⟨t145, A510, H⟩ := H
                        replace H : (if t145 = true then (some (a0_0, 0, 0, 0, a0_4)) else (some (a0_0, 0, a0_2, 0, 0))) = some (r1, r2, r3, r4, r5) := H
                        have A51 := Aside0.mk A510
                        clear A510
                        by_cases c52 : t145 = true
                        · subst c52
                          have H1 : (some (a0_0, 0, 0, 0, a0_4)) = some (r1, r2, r3, r4, r5) := by rw [if_pos rfl] at H; exact H
                          clear H
                          have H := H1
                          clear H1
                          simp only [Option.some.injEq, Prod.mk.injEq] at H
                          obtain ⟨rfl, rfl, rfl, rfl, rfl⟩ := H
                          have hnb53 := NB140_141.out
                          have hnc53 := NB141_140.out
                          have hcz54_0 : wc.cell? ⟨gb140, 0, none⟩ = some (.int .u8 a0_0) := (blk_cell BK140.out 0).trans rfl
                          have hcz54_1 : wc.cell? ⟨gb140, 1, none⟩ = some (.int .u8 a0_1) := (blk_cell BK140.out 1).trans rfl
                          have hcz54_2 : wc.cell? ⟨gb140, 2, none⟩ = some (.int .u8 a0_2) := (blk_cell BK140.out 2).trans rfl
                          have hcz54_3 : wc.cell? ⟨gb140, 3, none⟩ = some (.int .i16 a0_3) := (blk_cell BK140.out 3).trans rfl
                          have hcz54_4 : wc.cell? ⟨gb140, 4, none⟩ = some (.int .i32 a0_4) := (blk_cell BK140.out 4).trans rfl
                          have hfz54_0 := blk_frozen BK140.out 0
                          have hfz54_1 := blk_frozen BK140.out 1
                          have hfz54_2 := blk_frozen BK140.out 2
                          have hfz54_3 := blk_frozen BK140.out 3
                          have hfz54_4 := blk_frozen BK140.out 4
                          go_wp2_with (first | ((with_reducible refine gate_callee (f := 21) rfl ?_); refine goesL_ (some 69) rfl rfl Try.func21 (by kernel_rfl) rfl #[.int .u8 a0_0] rfl (by (try simp only [List.map_toArray, List.map_cons, List.map_nil]); first | done | rfl | (simp only [List.length_drop, List.length_take]; rfl)) ?_; (with_reducible refine (insn_ByReg.calls a0_0 true _ A51.out).mono ?_); rintro e w' ⟨rfl, ⟨nd, rfl⟩⟩; refine ⟨_, rfl, ?_⟩; (try (rw [drewN_self wc]; generalize hq_ : World.drewN wc _ = wc; have n0_ : Aside0 (wc.heap[gb140]? = some (.cells #[.int .u8 a0_0, .int .u8 a0_1, .int .u8 a0_2, .int .i16 a0_3, .int .i32 a0_4] 24 (0, 0))) := ⟨by rw [← hq_]; exact (by (with_reducible repeat (first | refine blk_drewN ?_ _ | refine blk_drew ?_ | refine blk_alloc ?_ _)); exact BK140.out)⟩; have n1_ : Aside0 (wc.heap[gb141]? = some (.cells #[.int .u8 0, .int .u8 0, .int .u8 0, .int .i16 0, .int .i32 0] 24 (0, 0))) := ⟨by rw [← hq_]; exact (by (with_reducible repeat (first | refine blk_drewN ?_ _ | refine blk_drew ?_ | refine blk_alloc ?_ _)); exact BK141.out)⟩; have n2_ : Aside0 (Below w.heap.size w wc) := ⟨by rw [← hq_]; exact (by repeat (first | (with_reducible first | exact HB.out | apply below_alloc | apply pw_below_drewN | apply below_drew1 | refine below_set ?_ GE140.out | refine below_set ?_ GE141.out) | exact HB.out))⟩; clear BK140 BK141 HB hq_; have BK140 := n0_; have BK141 := n1_; have HB := n2_; clear n0_ n1_ n2_)); have hcz54_0 : wc.cell? ⟨gb140, 0, none⟩ = some (.int .u8 a0_0) := (blk_cell BK140.out 0).trans rfl; have hcz54_1 : wc.cell? ⟨gb140, 1, none⟩ = some (.int .u8 a0_1) := (blk_cell BK140.out 1).trans rfl; have hcz54_2 : wc.cell? ⟨gb140, 2, none⟩ = some (.int .u8 a0_2) := (blk_cell BK140.out 2).trans rfl; have hcz54_3 : wc.cell? ⟨gb140, 3, none⟩ = some (.int .i16 a0_3) := (blk_cell BK140.out 3).trans rfl; have hcz54_4 : wc.cell? ⟨gb140, 4, none⟩ = some (.int .i32 a0_4) := (blk_cell BK140.out 4).trans rfl; have hfz54_0 := blk_frozen BK140.out 0; have hfz54_1 := blk_frozen BK140.out 1; have hfz54_2 := blk_frozen BK140.out 2; have hfz54_3 := blk_frozen BK140.out 3; have hfz54_4 := blk_frozen BK140.out 4; have hcz55_0 : wc.cell? ⟨gb141, 0, none⟩ = some (.int .u8 0) := (blk_cell BK141.out 0).trans rfl; have hcz55_1 : wc.cell? ⟨gb141, 1, none⟩ = some (.int .u8 0) := (blk_cell BK141.out 1).trans rfl; have hcz55_2 : wc.cell? ⟨gb141, 2, none⟩ = some (.int .u8 0) := (blk_cell BK141.out 2).trans rfl; have hcz55_3 : wc.cell? ⟨gb141, 3, none⟩ = some (.int .i16 0) := (blk_cell BK141.out 3).trans rfl; have hcz55_4 : wc.cell? ⟨gb141, 4, none⟩ = some (.int .i32 0) := (blk_cell BK141.out 4).trans rfl; have hfz55_0 := blk_frozen BK141.out 0; have hfz55_1 := blk_frozen BK141.out 1; have hfz55_2 := blk_frozen BK141.out 2; have hfz55_3 := blk_frozen BK141.out 3; have hfz55_4 := blk_frozen BK141.out 4))
                          refine bodyPost_ret (results_cell_row rfl _ _ gb141 24 #[.int .u8 a0_0, .int .u8 0, .int .u8 0, .int .i16 0, .int .i32 a0_4] (0, 0) _ rfl (by (with_reducible repeat (first | refine blk_drewN ?_ _ | refine blk_drew ?_ | refine blk_alloc ?_ _)); refine blk_put (cs := #[.int .u8 a0_0, .int .u8 0, .int .u8 0, .int .i16 0, .int .i32 0]) ?_ 4 _ rfl; (with_reducible repeat (first | refine blk_drewN ?_ _ | refine blk_drew ?_ | refine blk_alloc ?_ _)); refine blk_put (cs := #[.int .u8 a0_0, .int .u8 0, .int .u8 0, .int .i16 0, .int .i32 0]) ?_ 3 _ rfl; (with_reducible repeat (first | refine blk_drewN ?_ _ | refine blk_drew ?_ | refine blk_alloc ?_ _)); refine blk_put (cs := #[.int .u8 a0_0, .int .u8 0, .int .u8 0, .int .i16 0, .int .i32 0]) ?_ 2 _ rfl; (with_reducible repeat (first | refine blk_drewN ?_ _ | refine blk_drew ?_ | refine blk_alloc ?_ _)); refine blk_put (cs := #[.int .u8 a0_0, .int .u8 0, .int .u8 0, .int .i16 0, .int .i32 0]) ?_ 1 _ rfl; (with_reducible repeat (first | refine blk_drewN ?_ _ | refine blk_drew ?_ | refine blk_alloc ?_ _)); refine blk_put (cs := #[.int .u8 0, .int .u8 0, .int .u8 0, .int .i16 0, .int .i32 0]) ?_ 0 _ rfl; (with_reducible repeat (first | refine blk_drewN ?_ _ | refine blk_drew ?_ | refine blk_alloc ?_ _)); refine blk_far ?_ NB141_140.out _; (with_reducible repeat (first | refine blk_drewN ?_ _ | refine blk_drew ?_ | refine blk_alloc ?_ _)); refine blk_far ?_ NB141_140.out _; (with_reducible repeat (first | refine blk_drewN ?_ _ | refine blk_drew ?_ | refine blk_alloc ?_ _)); refine blk_far ?_ NB141_140.out _; (with_reducible repeat (first | refine blk_drewN ?_ _ | refine blk_drew ?_ | refine blk_alloc ?_ _)); exact BK141.out) Try.underlying24 rfl (by kernel_rfl)) rfl ?_
                          exact ⟨by first | rfl | (simp [errW_none, errW_some] <;> rfl) | (simp [*, errW_none, errW_some] <;> rfl), by repeat (first | (with_reducible first | exact HB.out | apply below_alloc | apply pw_below_drewN | apply below_drew1 | refine below_set ?_ GE140.out | refine below_set ?_ GE141.out) | exact HB.out)⟩
                        · replace c52 := Bool.eq_false_iff.mpr c52
                          subst c52
                          have H1 : (some (a0_0, 0, a0_2, 0, 0)) = some (r1, r2, r3, r4, r5) := by rw [if_neg (show ¬ (false = true) by decide)] at H; exact H
                          clear H
                          have H := H1
                          clear H1
                          simp only [Option.some.injEq, Prod.mk.injEq] at H
                          obtain ⟨rfl, rfl, rfl, rfl, rfl⟩ := H
                          have hnb56 := NB140_141.out
                          have hnc56 := NB141_140.out
                          have hcz57_0 : wc.cell? ⟨gb140, 0, none⟩ = some (.int .u8 a0_0) := (blk_cell BK140.out 0).trans rfl
                          have hcz57_1 : wc.cell? ⟨gb140, 1, none⟩ = some (.int .u8 a0_1) := (blk_cell BK140.out 1).trans rfl
                          have hcz57_2 : wc.cell? ⟨gb140, 2, none⟩ = some (.int .u8 a0_2) := (blk_cell BK140.out 2).trans rfl
                          have hcz57_3 : wc.cell? ⟨gb140, 3, none⟩ = some (.int .i16 a0_3) := (blk_cell BK140.out 3).trans rfl
                          have hcz57_4 : wc.cell? ⟨gb140, 4, none⟩ = some (.int .i32 a0_4) := (blk_cell BK140.out 4).trans rfl
                          have hfz57_0 := blk_frozen BK140.out 0
                          have hfz57_1 := blk_frozen BK140.out 1
                          have hfz57_2 := blk_frozen BK140.out 2
                          have hfz57_3 := blk_frozen BK140.out 3
                          have hfz57_4 := blk_frozen BK140.out 4
                          go_wp2_with (first | ((with_reducible refine gate_callee (f := 21) rfl ?_); refine goesL_ (some 69) rfl rfl Try.func21 (by kernel_rfl) rfl #[.int .u8 a0_0] rfl (by (try simp only [List.map_toArray, List.map_cons, List.map_nil]); first | done | rfl | (simp only [List.length_drop, List.length_take]; rfl)) ?_; (with_reducible refine (insn_ByReg.calls a0_0 false _ A51.out).mono ?_); rintro e w' ⟨rfl, ⟨nd, rfl⟩⟩; refine ⟨_, rfl, ?_⟩; (try (rw [drewN_self wc]; generalize hq_ : World.drewN wc _ = wc; have n0_ : Aside0 (wc.heap[gb140]? = some (.cells #[.int .u8 a0_0, .int .u8 a0_1, .int .u8 a0_2, .int .i16 a0_3, .int .i32 a0_4] 24 (0, 0))) := ⟨by rw [← hq_]; exact (by (with_reducible repeat (first | refine blk_drewN ?_ _ | refine blk_drew ?_ | refine blk_alloc ?_ _)); exact BK140.out)⟩; have n1_ : Aside0 (wc.heap[gb141]? = some (.cells #[.int .u8 0, .int .u8 0, .int .u8 0, .int .i16 0, .int .i32 0] 24 (0, 0))) := ⟨by rw [← hq_]; exact (by (with_reducible repeat (first | refine blk_drewN ?_ _ | refine blk_drew ?_ | refine blk_alloc ?_ _)); exact BK141.out)⟩; have n2_ : Aside0 (Below w.heap.size w wc) := ⟨by rw [← hq_]; exact (by repeat (first | (with_reducible first | exact HB.out | apply below_alloc | apply pw_below_drewN | apply below_drew1 | refine below_set ?_ GE140.out | refine below_set ?_ GE141.out) | exact HB.out))⟩; clear BK140 BK141 HB hq_; have BK140 := n0_; have BK141 := n1_; have HB := n2_; clear n0_ n1_ n2_)); have hcz57_0 : wc.cell? ⟨gb140, 0, none⟩ = some (.int .u8 a0_0) := (blk_cell BK140.out 0).trans rfl; have hcz57_1 : wc.cell? ⟨gb140, 1, none⟩ = some (.int .u8 a0_1) := (blk_cell BK140.out 1).trans rfl; have hcz57_2 : wc.cell? ⟨gb140, 2, none⟩ = some (.int .u8 a0_2) := (blk_cell BK140.out 2).trans rfl; have hcz57_3 : wc.cell? ⟨gb140, 3, none⟩ = some (.int .i16 a0_3) := (blk_cell BK140.out 3).trans rfl; have hcz57_4 : wc.cell? ⟨gb140, 4, none⟩ = some (.int .i32 a0_4) := (blk_cell BK140.out 4).trans rfl; have hfz57_0 := blk_frozen BK140.out 0; have hfz57_1 := blk_frozen BK140.out 1; have hfz57_2 := blk_frozen BK140.out 2; have hfz57_3 := blk_frozen BK140.out 3; have hfz57_4 := blk_frozen BK140.out 4; have hcz58_0 : wc.cell? ⟨gb141, 0, none⟩ = some (.int .u8 0) := (blk_cell BK141.out 0).trans rfl; have hcz58_1 : wc.cell? ⟨gb141, 1, none⟩ = some (.int .u8 0) := (blk_cell BK141.out 1).trans rfl; have hcz58_2 : wc.cell? ⟨gb141, 2, none⟩ = some (.int .u8 0) := (blk_cell BK141.out 2).trans rfl; have hcz58_3 : wc.cell? ⟨gb141, 3, none⟩ = some (.int .i16 0) := (blk_cell BK141.out 3).trans rfl; have hcz58_4 : wc.cell? ⟨gb141, 4, none⟩ = some (.int .i32 0) := (blk_cell BK141.out 4).trans rfl; have hfz58_0 := blk_frozen BK141.out 0; have hfz58_1 := blk_frozen BK141.out 1; have hfz58_2 := blk_frozen BK141.out 2; have hfz58_3 := blk_frozen BK141.out 3; have hfz58_4 := blk_frozen BK141.out 4))
                          refine bodyPost_ret (results_cell_row rfl _ _ gb141 24 #[.int .u8 a0_0, .int .u8 0, .int .u8 a0_2, .int .i16 0, .int .i32 0] (0, 0) _ rfl (by (with_reducible repeat (first | refine blk_drewN ?_ _ | refine blk_drew ?_ | refine blk_alloc ?_ _)); refine blk_put (cs := #[.int .u8 a0_0, .int .u8 0, .int .u8 a0_2, .int .i16 0, .int .i32 0]) ?_ 4 _ rfl; (with_reducible repeat (first | refine blk_drewN ?_ _ | refine blk_drew ?_ | refine blk_alloc ?_ _)); refine blk_put (cs := #[.int .u8 a0_0, .int .u8 0, .int .u8 a0_2, .int .i16 0, .int .i32 0]) ?_ 3 _ rfl; (with_reducible repeat (first | refine blk_drewN ?_ _ | refine blk_drew ?_ | refine blk_alloc ?_ _)); refine blk_put (cs := #[.int .u8 a0_0, .int .u8 0, .int .u8 0, .int .i16 0, .int .i32 0]) ?_ 2 _ rfl; (with_reducible repeat (first | refine blk_drewN ?_ _ | refine blk_drew ?_ | refine blk_alloc ?_ _)); refine blk_put (cs := #[.int .u8 a0_0, .int .u8 0, .int .u8 0, .int .i16 0, .int .i32 0]) ?_ 1 _ rfl; (with_reducible repeat (first | refine blk_drewN ?_ _ | refine blk_drew ?_ | refine blk_alloc ?_ _)); refine blk_put (cs := #[.int .u8 0, .int .u8 0, .int .u8 0, .int .i16 0, .int .i32 0]) ?_ 0 _ rfl; (with_reducible repeat (first | refine blk_drewN ?_ _ | refine blk_drew ?_ | refine blk_alloc ?_ _)); refine blk_far ?_ NB141_140.out _; (with_reducible repeat (first | refine blk_drewN ?_ _ | refine blk_drew ?_ | refine blk_alloc ?_ _)); refine blk_far ?_ NB141_140.out _; (with_reducible repeat (first | refine blk_drewN ?_ _ | refine blk_drew ?_ | refine blk_alloc ?_ _)); refine blk_far ?_ NB141_140.out _; (with_reducible repeat (first | refine blk_drewN ?_ _ | refine blk_drew ?_ | refine blk_alloc ?_ _)); exact BK141.out) Try.underlying24 rfl (by kernel_rfl)) rfl ?_
                          exact ⟨by first | rfl | (simp [errW_none, errW_some] <;> rfl) | (simp [*, errW_none, errW_some] <;> rfl), by repeat (first | (with_reducible first | exact HB.out | apply below_alloc | apply pw_below_drewN | apply below_drew1 | refine below_set ?_ GE140.out | refine below_set ?_ GE141.out) | exact HB.out)⟩

end Go.Proofs.Ytiekhgllnpgjcaa.PInsnPlain
