-- Written by a program of this session (a variant of the print), for this claim. Lean checks it.
import Derived.Test.YtiekhgllnpgjcaaPInsnPlainx0
import Derived.Test.YtiekhgllnpgjcaaPInsnPlainx1
import Derived.Test.YtiekhgllnpgjcaaPInsnPlainx2
namespace Go.Proofs.Ytiekhgllnpgjcaa.PInsnPlain
open Go.RowKit Go.Proofs.YtiekhgllnpgjcaaW.PrintWords Go.Proofs.YtiekhgllnpgjcaaW.PrintLast Go.Proofs.YtiekhgllnpgjcaaW.PrintMore
attribute [local go_sem] max2_int min2_int max_two min_two max_three min_three max_four min_four   -- for this text's walks alone
attribute [local go_sem high] Go.Proofs.Ytiekhgllnpgjcaa.NotLaw.not_u64 Go.Proofs.Ytiekhgllnpgjcaa.NotLaw.not_u32 Go.Proofs.Ytiekhgllnpgjcaa.NotLaw.not_u16 Go.Proofs.Ytiekhgllnpgjcaa.NotLaw.not_u8
set_option linter.unusedVariables false
set_option linter.unusedSimpArgs false

attribute [local go_sem high] eqA24
/-! ### insn_Decode: function 25 -/
def insn_Decode.l0 : Nat → List Int → List (S24) → Option ((List (S24)) × Int)
  | 0, _, _ => none
  | k + 1, x0, x4 => if (x0.length : Int) > 0 then (if 0 < (x0.length : Int) then (if 1 < (x0.length : Int) then (if 2 ≤ 4 then (if 4 ≤ (x0.length : Int) then ((le_Num.f k ((x0.take 4).drop 2)).bind fun t115 => (if 4 ≤ 8 then (if 8 ≤ (x0.length : Int) then ((le_Num.f k ((x0.take 8).drop 4)).bind fun t121 => (if x4.length < 11728124029610 then (insn_Decode.l0 k (x0.drop 8) (x4 ++ [(⟨rd x0 0, Go.bits .and .u8 (rd x0 1) 15, (rd x0 1) / 16, IntKind.i16.wrap (t115), wrap32 (t121)⟩ : S24)])) else (none))) else (none)) else (none))) else (none)) else (none)) else (none)) else (none)) else (some (x4, 0))
def insn_Decode.f (k : Nat) (l0 : List Int) : Option ((List (S24)) × Int) := if ((l0.length : Int) % 8) = 0 then (insn_Decode.l0 k l0 ([] : List (S24))) else (some (([] : List (S24)), 20))
theorem insn_Decode.mono_l : ∀ k, (∀ y0 y1, LeO (insn_Decode.l0 k y0 y1) (insn_Decode.l0 (k + 1) y0 y1))
  | 0 => fun _ _ r h => by simp [insn_Decode.l0] at h
  | k + 1 => by
    have ih0 := insn_Decode.mono_l k
    · intro y0 y1
      unfold insn_Decode.l0
      repeat' first
      | (with_reducible exact ih0 _ _)
      | (with_reducible exact le_Num.mono _ _)
      | (with_reducible exact LeO.refl _)
      | (with_reducible exact LeO.none _)
      | (with_reducible refine LeO.ite ?_ ?_)
      | (with_reducible refine LeO.bind ?_ (fun _ => ?_))
      | exact ih0 _ _
      | exact le_Num.mono _ _
      | exact LeO.none _
      | refine LeO.ite ?_ ?_
      | refine LeO.bind ?_ (fun _ => ?_)
theorem insn_Decode.mono : ∀ a0 k, LeO (insn_Decode.f k a0) (insn_Decode.f (k + 1) a0) := by
  intro a0 k
  have ih0 := insn_Decode.mono_l k
  unfold insn_Decode.f
  repeat' first
      | (with_reducible exact ih0 _ _)
      | (with_reducible exact le_Num.mono _ _)
      | (with_reducible exact LeO.refl _)
      | (with_reducible exact LeO.none _)
      | (with_reducible refine LeO.ite ?_ ?_)
      | (with_reducible refine LeO.bind ?_ (fun _ => ?_))
      | exact ih0 _ _
      | exact le_Num.mono _ _
      | exact LeO.none _
      | refine LeO.ite ?_ ?_
      | refine LeO.bind ?_ (fun _ => ?_)
def insn_Decode.T6 : Bool × List (List Nat × List Nat) := (true, [([], []), ([], []), ([1], [1]), ([2], [2]), ([], []), ([4], [4]), ([5], [5]), ([6], [6]), ([], []), ([8], [8]), ([9], [9]), ([10], [10]), ([], []), ([12], [12]), ([13], [13]), ([14], [14]), ([], []), ([16], [16]), ([17, 14], [17]), ([18], [18]), ([3, 7, 11, 15, 19], [3, 7, 11, 15, 19]), ([20], [20]), ([0, 21, 18], [0, 21]), ([22, 22, 0, 1, 2, 3, 4, 5, 6, 7, 8, 9, 10, 11, 12, 13, 14, 15, 16, 17, 18, 19, 20, 21, 22], [0, 22])])
def insn_Decode.B6 : List Nat := [0, 0, 2, 6, 0, 16, 48, 112, 0, 256, 768, 1792, 0, 4096, 12288, 28672, 0, 65536, 225280, 487424, 1048574, 2097150, 4194303, 8388607]
theorem insn_Decode.tab6 : rtab .any (opsOf Try.f25 6) = insn_Decode.T6 := by kernel_rfl
theorem insn_Decode.bits6 : waitsOk insn_Decode.T6.2 insn_Decode.B6 = true := by kernel_rfl
set_option maxHeartbeats 8000000 in
set_option maxRecDepth 100000 in
theorem insn_Decode.calls (k : Nat) (P0_ : Nat → Prop) (A0 : Option Addr) (c0 : Nat) (l0 : List Int) (r1 : List (S24)) (r2 : Int) (w : World) (hs0 : Kd.V (Kd.int .u8) 5 w w.heap.size (fun k_ => P0_ k_) (.slice A0 l0.length c0) l0) (h : insn_Decode.f k l0 = some (r1, r2)) :
    Calls Try.prog 25 #[.slice A0 l0.length c0] w fun e w' => ∃ v0_ : Value, e = .returned (.tuple #[v0_, .int .i64 r2]) ∧ Kd.R k24 24 w' w.heap.size (fun k_ => (w.heap.size ≤ k_)) v0_ r1 ∧ Below w.heap.size w w' := by
  have hu24 := Try.underlying24
  have HO0 := Aside0.mk (show Kd.V (Kd.int .u8) 5 w w.heap.size (fun k_ => (P0_ k_ ∨ w.heap.size ≤ k_)) (.slice A0 l0.length c0) l0 from Kd.V_mono hs0 (fun k_ hk => .inl hk))
  have HB := Aside0.mk (Below.refl w.heap.size w)
  have H : (if ((l0.length : Int) % 8) = 0 then (insn_Decode.l0 k l0 ([] : List (S24))) else (some (([] : List (S24)), 20))) = some (r1, r2) := h
  clear h
  by_cases c2 : ((l0.length : Int) % 8) = 0
  · rw [if_pos c2] at H
    have c2b0 : (((l0.length : Int) % 8) == 0) = true := beq_iff_eq.mpr c2
    have c2b1 : (((l0.length : Int) % 8) != 0) = false := bne_eq_false_iff_eq.mpr c2
    clear c2
    have H' := Aside0.mk H
    clear H
    go_enter Try.func25, Try.ntmps25
    go_wp2
    go_loopg [0, 4] k (fun kq v0 v4 w' => ∃ (x0_1 : List Int) (x4_1 : List (S24)), Aside0 (insn_Decode.l0 kq x0_1 x4_1 = some (r1, r2)) ∧ Aside0 (kq ≤ k) ∧ Aside0 (Kd.V (Kd.int .u8) 5 w' w.heap.size (fun k_ => (P0_ k_ ∨ w.heap.size ≤ k_) ∧ some k_ ≠ (v4 : Value).ownBlock) v0 x0_1) ∧ Aside0 (Kd.R k24 24 w' w.heap.size (fun k_ => (w.heap.size ≤ k_)) v4 x4_1) ∧ Aside0 (Below w.heap.size w w'))
    case atStart => exact ⟨(l0), (([] : List (S24))), H', ⟨Nat.le_refl _⟩, ⟨by (with_reducible repeat (first | apply Kd.V_alloc | apply Kd.V_drewN | apply Kd.V_drew)); exact Kd.V_mono HO0.out (fun _ hk => ⟨hk, (by simp [Value.ownBlock])⟩)⟩, ⟨by first | exact Kd.R_nil _ _ _ _ _ | exact Kd.N_nil _ _ _ _ _ | exact Kd.V_nil _ _ _ _ _ | exact Kd.Q_nil _ _ _ _ _ | exact Kd.S_nil _ _ _ _ _⟩, ⟨by repeat (first | (with_reducible first | exact HB.out | apply below_alloc | apply pw_below_drewN | apply below_drew1) | exact HB.out)⟩⟩
    case round =>
      clear H'
      try clear c2
      try clear c2b0
      try clear c2b1
      try clear p2
      obtain ⟨x0_1, x4_1, HA, HK1, HO_0, HO_4, HB⟩ := hrel
      cases gk with
      | zero => exact absurd HA.out (by simp [insn_Decode.l0])
      | succ k1 =>
        have H := HA.out
        clear HA
        simp only [insn_Decode.l0] at H
        by_cases c3 : (x0_1.length : Int) > 0
        · rw [if_pos c3] at H
          have c3b0 : decide (0 < (x0_1.length : Int)) = true := decide_eq_true c3
          have c3b1 : decide (0 < x0_1.length) = true := decide_eq_true (by omega)
          clear c3
          by_cases c4 : 0 < (x0_1.length : Int)
          · rw [if_pos c4] at H
            have c4b0 : decide (0 < (x0_1.length : Int)) = true := decide_eq_true c4
            have c4b1 : decide (0 < x0_1.length) = true := decide_eq_true (by omega)
            clear c4
            by_cases c5 : 1 < (x0_1.length : Int)
            · rw [if_pos c5] at H
              have c5b0 : decide (1 < (x0_1.length : Int)) = true := decide_eq_true c5
              have c5b1 : decide (1 < x0_1.length) = true := decide_eq_true (by omega)
              clear c5
              by_cases c6 : 2 ≤ 4
              · rw [if_pos c6] at H
                have c6b0 := eq_true c6
                have c6b1 : decide (2 ≤ 4) = true := decide_eq_true c6
                clear c6
                by_cases c7 : 4 ≤ (x0_1.length : Int)
                · rw [if_pos c7] at H
                  have c7b0 := eq_true c7
                  have c7b1 : decide (4 ≤ (x0_1.length : Int)) = true := decide_eq_true c7
                  clear c7
                  obtain ⟨y110, hy110⟩ : ∃ y_ : List Int, y_ = ((x0_1.take 4).drop 2) := ⟨_, rfl⟩
                  replace H : ((le_Num.f k1 y110).bind fun t115 => (if 4 ≤ 8 then (if 8 ≤ (x0_1.length : Int) then ((le_Num.f k1 ((x0_1.take 8).drop 4)).bind fun t121 => (if x4_1.length < 11728124029610 then (insn_Decode.l0 k1 (x0_1.drop 8) (x4_1 ++ [(⟨rd x0_1 0, Go.bits .and .u8 (rd x0_1 1) 15, (rd x0_1 1) / 16, IntKind.i16.wrap (t115), wrap32 (t121)⟩ : S24)])) else (none))) else (none)) else (none))) = some (r1, r2) := by first | (rw [hy110]; with_reducible exact H) | (have H2_ := (Option.bind_some _ _).symm.trans H; rw [hy110]; with_reducible exact H2_) | (have H2_ := (Option.bind_some _ _).symm.trans H; with_reducible exact H2_) | with_reducible exact H | (rw [hy110]; exact H) | exact H
                  have Ny110 := Aside0.mk hy110
                  clear hy110
                  replace H := Option.bind_eq_some_iff.mp H
                  obtain ⟨t115, A80, H⟩ := H
                  replace H : (if 4 ≤ 8 then (if 8 ≤ (x0_1.length : Int) then ((le_Num.f k1 ((x0_1.take 8).drop 4)).bind fun t121 => (if x4_1.length < 11728124029610 then (insn_Decode.l0 k1 (x0_1.drop 8) (x4_1 ++ [(⟨rd x0_1 0, Go.bits .and .u8 (rd x0_1 1) 15, (rd x0_1 1) / 16, IntKind.i16.wrap (t115), wrap32 (t121)⟩ : S24)])) else (none))) else (none)) else (none)) = some (r1, r2) := H
                  have A8 := Aside0.mk A80
                  clear A80
                  by_cases c9 : 4 ≤ 8
                  · rw [if_pos c9] at H
                    have c9b0 := eq_true c9
                    have c9b1 : decide (4 ≤ 8) = true := decide_eq_true c9
                    clear c9
                    by_cases c10 : 8 ≤ (x0_1.length : Int)
                    · rw [if_pos c10] at H
                      have c10b0 := eq_true c10
                      have c10b1 : decide (8 ≤ (x0_1.length : Int)) = true := decide_eq_true c10
                      clear c10
                      obtain ⟨y116, hy116⟩ : ∃ y_ : List Int, y_ = ((x0_1.take 8).drop 4) := ⟨_, rfl⟩
                      replace H : ((le_Num.f k1 y116).bind fun t121 => (if x4_1.length < 11728124029610 then (insn_Decode.l0 k1 (x0_1.drop 8) (x4_1 ++ [(⟨rd x0_1 0, Go.bits .and .u8 (rd x0_1 1) 15, (rd x0_1 1) / 16, IntKind.i16.wrap (t115), wrap32 (t121)⟩ : S24)])) else (none))) = some (r1, r2) := by first | (rw [hy116]; with_reducible exact H) | (have H2_ := (Option.bind_some _ _).symm.trans H; rw [hy116]; with_reducible exact H2_) | (have H2_ := (Option.bind_some _ _).symm.trans H; with_reducible exact H2_) | with_reducible exact H | (rw [hy116]; exact H) | exact H
                      have Ny116 := Aside0.mk hy116
                      clear hy116
                      replace H := Option.bind_eq_some_iff.mp H
                      obtain ⟨t121, A110, H⟩ := H
                      replace H : (if x4_1.length < 11728124029610 then (insn_Decode.l0 k1 (x0_1.drop 8) (x4_1 ++ [(⟨rd x0_1 0, Go.bits .and .u8 (rd x0_1 1) 15, (rd x0_1 1) / 16, IntKind.i16.wrap (t115), wrap32 (t121)⟩ : S24)])) else (none)) = some (r1, r2) := H
                      have A11 := Aside0.mk A110
                      clear A110
                      by_cases c12 : x4_1.length < 11728124029610
                      · rw [if_pos c12] at H
                        have LMc12 := Aside0.mk c12
                        clear c12
                        obtain ⟨y122, hy122⟩ : ∃ y_ : List (S24), y_ = (x4_1 ++ [(⟨rd x0_1 0, Go.bits .and .u8 (rd x0_1 1) 15, (rd x0_1 1) / 16, IntKind.i16.wrap (t115), wrap32 (t121)⟩ : S24)]) := ⟨_, rfl⟩
                        replace H : (insn_Decode.l0 k1 (x0_1.drop 8) y122) = some (r1, r2) := by first | (rw [hy122]; with_reducible exact H) | (have H2_ := (Option.bind_some _ _).symm.trans H; rw [hy122]; with_reducible exact H2_) | (have H2_ := (Option.bind_some _ _).symm.trans H; with_reducible exact H2_) | with_reducible exact H | (rw [hy122]; exact H) | exact H
                        have Ny122 := Aside0.mk hy122
                        clear hy122
                        have c13b0 := eq_true (of_decide_eq_true (by first | (with_reducible assumption) | assumption) : 8 ≤ (x0_1.length : Int))
                        obtain ⟨y125, hy125⟩ : ∃ y_ : List Int, y_ = (x0_1.drop 8) := ⟨_, rfl⟩
                        replace H : (insn_Decode.l0 k1 y125 y122) = some (r1, r2) := by first | (rw [hy125]; with_reducible exact H) | (have H2_ := (Option.bind_some _ _).symm.trans H; rw [hy125]; with_reducible exact H2_) | (have H2_ := (Option.bind_some _ _).symm.trans H; with_reducible exact H2_) | with_reducible exact H | (rw [hy125]; exact H) | exact H
                        have Ny125 := Aside0.mk hy125
                        clear hy125
                        have H' := Aside0.mk H
                        clear H
                        obtain ⟨Ao14, co14, eo14⟩ := Kd.V_slice HO_0.out
                        subst eo14
                        try go_wp2
                        have n0_ := Aside0.mk (Kd.V_drew HO_0.out)
                        have n1_ := Aside0.mk (Kd.R_drew HO_4.out)
                        have n2_ := Aside0.mk (below_drew1 HB.out)
                        clear HO_0
                        clear HO_4
                        clear HB
                        have HO_0 := n0_
                        have HO_4 := n1_
                        have HB := n2_
                        clear n0_ n1_ n2_
                        have p107 : 0 ≤ (0 : Int) := (by omega)
                        have q107 : 0 < (x0_1.length : Int) := of_decide_eq_true (by first | (with_reducible assumption) | assumption)
                        obtain ⟨ad107, e107, hx107_0⟩ := Kd.at_int (Kd.V_reads' HO_0.out).2.2 0 p107 q107
                        cases e107
                        have qi107 : (0 < x0_1.length) = True := eq_true (by omega)
                        (try rw [show ((0 : Int)).toNat = 0 from rfl] at hx107_0)
                        (try rw [Addr.add_zero'] at hx107_0)
                        replace p107 := eq_true p107
                        replace q107 := eq_true q107
                        have p108 : 0 ≤ (1 : Int) := (by omega)
                        have q108 : 1 < (x0_1.length : Int) := of_decide_eq_true (by first | (with_reducible assumption) | assumption)
                        obtain ⟨ad108, e108, hx108_0⟩ := Kd.at_int (Kd.V_reads' HO_0.out).2.2 1 p108 q108
                        obtain rfl : ad107 = ad108 := (by injection e108)
                        (try simp only [show (1 : Int).toNat = 1 from rfl, Nat.reduceMul, Nat.reduceEqDiff, Go.Addr.add, ↓reduceIte] at hx108_0)
                        have qi108 : (1 < x0_1.length) = True := eq_true (by omega)
                        (try rw [show ((1 : Int)).toNat = 1 from rfl] at hx108_0)
                        replace p108 := eq_true p108
                        replace q108 := eq_true q108
                        have p109 : 0 ≤ (1 : Int) := (by omega)
                        have q109 : 1 < (x0_1.length : Int) := of_decide_eq_true (by first | (with_reducible assumption) | assumption)
                        obtain ⟨ad109, e109, hx109_0⟩ := Kd.at_int (Kd.V_reads' HO_0.out).2.2 1 p109 q109
                        obtain rfl : ad107 = ad109 := (by injection e109)
                        (try simp only [show (1 : Int).toNat = 1 from rfl, Nat.reduceMul, Nat.reduceEqDiff, Go.Addr.add, ↓reduceIte] at hx109_0)
                        have qi109 : (1 < x0_1.length) = True := eq_true (by omega)
                        (try rw [show ((1 : Int)).toNat = 1 from rfl] at hx109_0)
                        replace p109 := eq_true p109
                        replace q109 := eq_true q109
                        have q16 : (4 : Int) ≤ ((x0_1.length : Int) : Int) := of_decide_eq_true (by first | (with_reducible assumption) | assumption)
                        obtain ⟨i016, hi016, _, hsz16, _⟩ := info_parts info5
                        have hroom16 : x0_1.length ≤ co14 := (Kd.V_reads' HO_0.out).2.1
                        have hC16 : Kd.F (Kd.int .u8) _ _ (some ad107) x0_1.length x0_1 := (Kd.V_at (base := w.heap.size) HO_0.out).2.2
                        have ql16 : (2 : Int) ≤ (4 : Int) := (by omega)
                        have hcut16 := cut_mid (P := Try.prog) 35 5 .i64 .i64 Try.underlying35 hi016 1 hsz16 (some ad107) x0_1.length co14 2 4 (by omega) ql16 q16 hroom16
                        have hr16 := Kd.F_mid (lo := (2 : Int).toNat) (hi := (4 : Int).toNat) (c := co14) hC16 (by omega) (by omega) hroom16
                        obtain ⟨A16, hA16⟩ : ∃ A1, A1 = (if co14 = (2 : Int).toNat then (some ad107) else ((some ad107) : Option Addr).map (·.add ((2 : Int).toNat * 1))) := ⟨_, rfl⟩
                        obtain ⟨c16, hc16⟩ : ∃ c1, c1 = co14 - (2 : Int).toNat := ⟨_, rfl⟩
                        have hy16 : y110.length = (4 : Int).toNat - (2 : Int).toNat := (by rw [Ny110.out, List.length_drop, List.length_take] <;> omega)
                        rw [show ((x0_1).take (4 : Int).toNat).drop (2 : Int).toNat = y110 from Ny110.out.symm] at hr16
                        replace hr16 : Kd.F (Kd.int .u8) _ _ A16 y110.length y110 := (by rw [hA16]; exact hr16)
                        rw [← hy16, ← hA16, ← hc16] at hcut16
                        have HO114 := Aside0.mk (show Kd.V (Kd.int .u8) 5 _ w.heap.size _ (.slice A16 y110.length c16) y110 from Kd.V_mk (by rw [hy16, hc16]; exact Nat.sub_le_sub_right (Nat.le_trans (by omega) hroom16) _) hr16)
                        have HC114 := Aside0.mk (show y110.length ≤ c16 from by rw [hy16, hc16]; exact Nat.sub_le_sub_right (Nat.le_trans (by omega) hroom16) _)
                        clear hr16 hC16 hroom16 hi016 hsz16 hc16
                        have KY16 := Aside0.mk hy16
                        have KA16 := Aside0.mk hA16
                        clear hy16 hA16
                        replace q16 := eq_true q16
                        have q17 : (8 : Int) ≤ ((x0_1.length : Int) : Int) := of_decide_eq_true (by first | (with_reducible assumption) | assumption)
                        obtain ⟨i017, hi017, _, hsz17, _⟩ := info_parts info5
                        have hroom17 : x0_1.length ≤ co14 := (Kd.V_reads' HO_0.out).2.1
                        have hC17 : Kd.F (Kd.int .u8) _ _ (some ad107) x0_1.length x0_1 := (Kd.V_at (base := w.heap.size) HO_0.out).2.2
                        have ql17 : (4 : Int) ≤ (8 : Int) := (by omega)
                        have hcut17 := cut_mid (P := Try.prog) 35 5 .i64 .i64 Try.underlying35 hi017 1 hsz17 (some ad107) x0_1.length co14 4 8 (by omega) ql17 q17 hroom17
                        have hr17 := Kd.F_mid (lo := (4 : Int).toNat) (hi := (8 : Int).toNat) (c := co14) hC17 (by omega) (by omega) hroom17
                        obtain ⟨A17, hA17⟩ : ∃ A1, A1 = (if co14 = (4 : Int).toNat then (some ad107) else ((some ad107) : Option Addr).map (·.add ((4 : Int).toNat * 1))) := ⟨_, rfl⟩
                        obtain ⟨c17, hc17⟩ : ∃ c1, c1 = co14 - (4 : Int).toNat := ⟨_, rfl⟩
                        have hy17 : y116.length = (8 : Int).toNat - (4 : Int).toNat := (by rw [Ny116.out, List.length_drop, List.length_take] <;> omega)
                        rw [show ((x0_1).take (8 : Int).toNat).drop (4 : Int).toNat = y116 from Ny116.out.symm] at hr17
                        replace hr17 : Kd.F (Kd.int .u8) _ _ A17 y116.length y116 := (by rw [hA17]; exact hr17)
                        rw [← hy17, ← hA17, ← hc17] at hcut17
                        have HO120 := Aside0.mk (show Kd.V (Kd.int .u8) 5 _ w.heap.size _ (.slice A17 y116.length c17) y116 from Kd.V_mk (by rw [hy17, hc17]; exact Nat.sub_le_sub_right (Nat.le_trans (by omega) hroom17) _) hr17)
                        have HC120 := Aside0.mk (show y116.length ≤ c17 from by rw [hy17, hc17]; exact Nat.sub_le_sub_right (Nat.le_trans (by omega) hroom17) _)
                        clear hr17 hC17 hroom17 hi017 hsz17 hc17
                        have KY17 := Aside0.mk hy17
                        have KA17 := Aside0.mk hA17
                        clear hy17 hA17
                        replace q17 := eq_true q17
                        refine start_ (n := 24) (S := fun w' => w'.cell? ad107 = some (.int .u8 (rd x0_1 0)) ∧ w'.cell? ⟨ad107.block, ad107.off + 1, none⟩ = some (.int .u8 (rd x0_1 1)) ∧ w'.cell? ⟨ad107.block, ad107.off + 1, none⟩ = some (.int .u8 (rd x0_1 1))) (ds := [21, 22]) #[false, false, false, false, false, false, false, false, false, false, false, false, false, false, false, false, false, false, false, false, false, false, false, false] (by kernel_rfl) rfl rfl ⟨hx107_0, hx108_0, hx109_0⟩ (fun hHeld => ?_); refine with_tabW insn_Decode.tab6 insn_Decode.bits6 (fun HT_ HW_ => ?_)
                        generalize wr.drew = w15 at HO_0 HO_4 HB HO114 HO120 hx107_0 hx108_0 hx109_0 hHeld ⊢
                        refine pure_ (i := 0) (N := some 14) (v := ?_) (a' := ?_) #[true, false, false, false, false, false, false, false, false, false, false, false, false, false, false, false, false, false, false, false, false, false, false, false] rfl rfl (any_of HT_.out (by kernel_rfl)) (fun _ _ _ h => h) (Or.inl ⟨by rfl, ?_⟩) ?_ ?_
                        rotate_left
                        · intro w'
                          go_simp
                          with_reducible rfl
                        rotate_left
                        · simp only [Act.put, List.setIfInBounds_toArray, List.set_cons_zero, List.set_cons_succ, i64_w, i32_w]
                          rfl
                        refine pure_ (i := 1) (N := some 15) (v := ?_) (a' := ?_) #[true, true, false, false, false, false, false, false, false, false, false, false, false, false, false, false, false, false, false, false, false, false, false, false] rfl rfl (any_of HT_.out (by kernel_rfl)) (fun _ _ _ h => h) (Or.inl ⟨by rfl, ?_⟩) ?_ ?_
                        rotate_left
                        · intro w'
                          go_simp
                          with_reducible rfl
                        rotate_left
                        · simp only [Act.put, List.setIfInBounds_toArray, List.set_cons_zero, List.set_cons_succ, i64_w, i32_w]
                          rfl
                        refine pure_ (i := 2) (N := some 16) (v := ?_) (a' := ?_) #[true, true, true, false, false, false, false, false, false, false, false, false, false, false, false, false, false, false, false, false, false, false, false, false] rfl rfl (any_of HT_.out (by kernel_rfl)) (fun _ _ _ h => h) (Or.inl ⟨by rfl, ?_⟩) ?_ ?_
                        rotate_left
                        · intro w'
                          go_simp
                          with_reducible rfl
                        rotate_left
                        · simp only [Act.put, List.setIfInBounds_toArray, List.set_cons_zero, List.set_cons_succ, i64_w, i32_w]
                          rfl
                        refine pure_ (i := 4) (N := some 18) (v := ?_) (a' := ?_) #[true, true, true, false, true, false, false, false, false, false, false, false, false, false, false, false, false, false, false, false, false, false, false, false] rfl rfl (any_of HT_.out (by kernel_rfl)) (fun _ _ _ h => h) (Or.inl ⟨by rfl, ?_⟩) ?_ ?_
                        rotate_left
                        · intro w'
                          go_simp
                          with_reducible rfl
                        rotate_left
                        · simp only [Act.put, List.setIfInBounds_toArray, List.set_cons_zero, List.set_cons_succ, i64_w, i32_w]
                          rfl
                        refine pure_ (i := 5) (N := some 19) (v := ?_) (a' := ?_) #[true, true, true, false, true, true, false, false, false, false, false, false, false, false, false, false, false, false, false, false, false, false, false, false] rfl rfl (any_of HT_.out (by kernel_rfl)) (fun _ _ _ h => h) (Or.inl ⟨by rfl, ?_⟩) ?_ ?_
                        rotate_left
                        · intro w'
                          go_simp
                          with_reducible rfl
                        rotate_left
                        · simp only [Act.put, List.setIfInBounds_toArray, List.set_cons_zero, List.set_cons_succ, i64_w, i32_w]
                          rfl
                        refine pure_ (i := 8) (N := some 22) (v := ?_) (a' := ?_) #[true, true, true, false, true, true, false, false, true, false, false, false, false, false, false, false, false, false, false, false, false, false, false, false] rfl rfl (any_of HT_.out (by kernel_rfl)) (fun _ _ _ h => h) (Or.inl ⟨by rfl, ?_⟩) ?_ ?_
                        rotate_left
                        · intro w'
                          go_simp
                          with_reducible rfl
                        rotate_left
                        · simp only [Act.put, List.setIfInBounds_toArray, List.set_cons_zero, List.set_cons_succ, i64_w, i32_w]
                          rfl
                        refine pure_ (i := 9) (N := some 23) (v := ?_) (a' := ?_) #[true, true, true, false, true, true, false, false, true, true, false, false, false, false, false, false, false, false, false, false, false, false, false, false] rfl rfl (any_of HT_.out (by kernel_rfl)) (fun _ _ _ h => h) (Or.inl ⟨by rfl, ?_⟩) ?_ ?_
                        rotate_left
                        · intro w'
                          go_simp
                          with_reducible rfl
                        rotate_left
                        · simp only [Act.put, List.setIfInBounds_toArray, List.set_cons_zero, List.set_cons_succ, i64_w, i32_w]
                          rfl
                        refine pure_ (i := 12) (N := some 26) (v := ?_) (a' := ?_) #[true, true, true, false, true, true, false, false, true, true, false, false, true, false, false, false, false, false, false, false, false, false, false, false] rfl rfl (any_of HT_.out (by kernel_rfl)) (fun _ _ _ h => h) (Or.inl ⟨by rfl, ?_⟩) ?_ ?_
                        rotate_left
                        · intro w'
                          go_simp
                          with_reducible rfl
                        rotate_left
                        · simp only [Act.put, List.setIfInBounds_toArray, List.set_cons_zero, List.set_cons_succ, i64_w, i32_w]
                          rfl
                        refine pure_ (i := 13) (N := some 27) (v := ?_) (a' := ?_) #[true, true, true, false, true, true, false, false, true, true, false, false, true, true, false, false, false, false, false, false, false, false, false, false] rfl rfl (any_of HT_.out (by kernel_rfl)) (fun _ _ _ h => h) (Or.inl ⟨by rfl, ?_⟩) ?_ ?_
                        rotate_left
                        · intro w'
                          go_simp
                          with_reducible rfl
                        rotate_left
                        · simp only [Act.put, List.setIfInBounds_toArray, List.set_cons_zero, List.set_cons_succ, i64_w, i32_w]
                          rfl
                        refine pure_ (i := 16) (N := some 30) (v := ?_) (a' := ?_) #[true, true, true, false, true, true, false, false, true, true, false, false, true, true, false, false, true, false, false, false, false, false, false, false] rfl rfl (any_of HT_.out (by kernel_rfl)) (fun _ _ _ h => h) (Or.inl ⟨by rfl, ?_⟩) ?_ ?_
                        rotate_left
                        · intro w'
                          go_simp
                          with_reducible rfl
                        rotate_left
                        · simp only [Act.put, List.setIfInBounds_toArray, List.set_cons_zero, List.set_cons_succ, i64_w, i32_w]
                          rfl
                        refine pure_ (i := 17) (N := some 31) (v := ?_) (a' := ?_) #[true, true, true, false, true, true, false, false, true, true, false, false, true, true, false, false, true, true, false, false, false, false, false, false] rfl rfl (any_of HT_.out (by kernel_rfl)) (fun _ _ _ h => h) (Or.inl ⟨by rfl, ?_⟩) ?_ ?_
                        rotate_left
                        · intro w'
                          go_simp
                          with_reducible rfl
                        rotate_left
                        · simp only [Act.put, List.setIfInBounds_toArray, List.set_cons_zero, List.set_cons_succ, i64_w, i32_w]
                          rfl
                        refine take_ (i := 3) (N := some 17) (v := ?_) (a' := ?_) #[true, true, true, true, true, true, false, false, true, true, false, false, true, true, false, false, true, true, false, false, false, false, false, false] rfl rfl (take_ofW HT_.out HW_.out (by kernel_rfl)) (fun _ _ _ h => h) (Or.inl ⟨by rfl, ?_⟩) hHeld ?_ ?_
                        rotate_left
                        · rintro w' ⟨s0, s1, s2⟩
                          go_simp
                          with_reducible rfl
                        rotate_left
                        · simp only [Act.put, List.setIfInBounds_toArray, List.set_cons_zero, List.set_cons_succ, i64_w, i32_w]
                          rfl
                        refine take_ (i := 6) (N := some 20) (v := ?_) (a' := ?_) #[true, true, true, true, true, true, true, false, true, true, false, false, true, true, false, false, true, true, false, false, false, false, false, false] rfl rfl (take_ofW HT_.out HW_.out (by kernel_rfl)) (fun _ _ _ h => h) (Or.inl ⟨by rfl, ?_⟩) hHeld ?_ ?_
                        rotate_left
                        · rintro w' ⟨s0, s1, s2⟩
                          go_simp
                          with_reducible rfl
                        rotate_left
                        · simp only [Act.put, List.setIfInBounds_toArray, List.set_cons_zero, List.set_cons_succ, i64_w, i32_w]
                          rfl
                        refine pure_ (i := 7) (N := some 21) (v := ?_) (a' := ?_) #[true, true, true, true, true, true, true, true, true, true, false, false, true, true, false, false, true, true, false, false, false, false, false, false] rfl rfl (any_of HT_.out (by kernel_rfl)) (fun _ _ _ h => h) (Or.inl ⟨by rfl, ?_⟩) ?_ ?_
                        rotate_left
                        · intro w'
                          go_simp
                          with_reducible rfl
                        rotate_left
                        · simp only [Act.put, List.setIfInBounds_toArray, List.set_cons_zero, List.set_cons_succ, i64_w, i32_w]
                          rfl
                        refine take_ (i := 10) (N := some 24) (v := ?_) (a' := ?_) #[true, true, true, true, true, true, true, true, true, true, true, false, true, true, false, false, true, true, false, false, false, false, false, false] rfl rfl (take_ofW HT_.out HW_.out (by kernel_rfl)) (fun _ _ _ h => h) (Or.inl ⟨by rfl, ?_⟩) hHeld ?_ ?_
                        rotate_left
                        · rintro w' ⟨s0, s1, s2⟩
                          go_simp
                          with_reducible rfl
                        rotate_left
                        · simp only [Act.put, List.setIfInBounds_toArray, List.set_cons_zero, List.set_cons_succ, i64_w, i32_w]
                          rfl
                        refine pure_ (i := 11) (N := some 25) (v := ?_) (a' := ?_) #[true, true, true, true, true, true, true, true, true, true, true, true, true, true, false, false, true, true, false, false, false, false, false, false] rfl rfl (any_of HT_.out (by kernel_rfl)) (fun _ _ _ h => h) (Or.inl ⟨by rfl, ?_⟩) ?_ ?_
                        rotate_left
                        · intro w'
                          go_simp
                          with_reducible rfl
                        rotate_left
                        · simp only [Act.put, List.setIfInBounds_toArray, List.set_cons_zero, List.set_cons_succ, i64_w, i32_w]
                          rfl
                        refine one_ (i := 14) (N := some 28) #[true, true, true, true, true, true, true, true, true, true, true, true, true, true, true, false, true, true, false, false, false, false, false, false] rfl rfl (one_of HT_.out (by kernel_rfl)) (by decide) (fun K hK => ?_)
                        refine goes_ Try.func39 (by kernel_rfl) rfl #[.slice A16 y110.length c16] (by rfl) rfl rfl (by (try simp only [List.map_toArray, List.map_cons, List.map_nil]); first | done | rfl | (simp only [List.length_drop, List.length_take]; rfl)) ?_
                        with_reducible refine (le_Num.calls k1 _ _ y110 t115 _ ?side1 ?side2 A8.out).mono ?_
                        (case side1 => repeat (first | exact (Kd.V_reads' HO114.out).2.2 | (with_reducible refine Kd.C_alloc ?_ _) | (with_reducible refine Kd.C_drewN ?_ _) | (with_reducible refine Kd.C_drew ?_)))
                        (case side2 => exact (Kd.V_reads' HO114.out).2.1)
                        rintro e w' ⟨rfl, ⟨nd, rfl⟩⟩
                        refine ⟨_, rfl, ?_⟩
                        refine hK.out _ _ ⟨hHeld.1, hHeld.2.1, hHeld.2.2⟩ (fun hHeld => ?_)
                        clear hK K
                        refine norm_ (a' := ?_) ?_ ?_
                        rotate_left
                        · show Act.put _ (some 28) _ = _
                          simp only [Act.put, List.setIfInBounds_toArray, List.set_cons_zero, List.set_cons_succ, i64_w, i32_w]
                          rfl
                        refine pure_ (i := 15) (N := some 29) (v := ?_) (a' := ?_) #[true, true, true, true, true, true, true, true, true, true, true, true, true, true, true, true, true, true, false, false, false, false, false, false] rfl rfl (any_of HT_.out (by kernel_rfl)) (fun _ _ _ h => h) (Or.inl ⟨by rfl, ?_⟩) ?_ ?_
                        rotate_left
                        · intro w'
                          go_simp
                          with_reducible rfl
                        rotate_left
                        · simp only [Act.put, List.setIfInBounds_toArray, List.set_cons_zero, List.set_cons_succ, i64_w, i32_w]
                          rfl
                        refine one_ (i := 18) (N := some 32) #[true, true, true, true, true, true, true, true, true, true, true, true, true, true, true, true, true, true, true, false, false, false, false, false] rfl rfl (one_of HT_.out (by kernel_rfl)) (by decide) (fun K hK => ?_)
                        refine goes_ Try.func39 (by kernel_rfl) rfl #[.slice A17 y116.length c17] (by rfl) rfl rfl (by (try simp only [List.map_toArray, List.map_cons, List.map_nil]); first | done | rfl | (simp only [List.length_drop, List.length_take]; rfl)) ?_
                        with_reducible refine (le_Num.calls k1 _ _ y116 t121 _ ?side1 ?side2 A11.out).mono ?_
                        (case side1 => repeat (first | exact (Kd.V_reads' HO120.out).2.2 | (with_reducible refine Kd.C_alloc ?_ _) | (with_reducible refine Kd.C_drewN ?_ _) | (with_reducible refine Kd.C_drew ?_)))
                        (case side2 => exact (Kd.V_reads' HO120.out).2.1)
                        rintro e w' ⟨rfl, ⟨nd, rfl⟩⟩
                        refine ⟨_, rfl, ?_⟩
                        refine hK.out _ _ ⟨hHeld.1, hHeld.2.1, hHeld.2.2⟩ (fun hHeld => ?_)
                        clear hK K
                        refine norm_ (a' := ?_) ?_ ?_
                        rotate_left
                        · show Act.put _ (some 32) _ = _
                          simp only [Act.put, List.setIfInBounds_toArray, List.set_cons_zero, List.set_cons_succ, i64_w, i32_w]
                          rfl
                        refine pure_ (i := 19) (N := some 33) (v := ?_) (a' := ?_) #[true, true, true, true, true, true, true, true, true, true, true, true, true, true, true, true, true, true, true, true, false, false, false, false] rfl rfl (any_of HT_.out (by kernel_rfl)) (fun _ _ _ h => h) (Or.inl ⟨by rfl, ?_⟩) ?_ ?_
                        rotate_left
                        · intro w'
                          go_simp
                          with_reducible rfl
                        rotate_left
                        · simp only [Act.put, List.setIfInBounds_toArray, List.set_cons_zero, List.set_cons_succ, i64_w, i32_w]
                          rfl
                        refine pure_ (i := 20) (N := some 34) (v := ?_) (a' := ?_) #[true, true, true, true, true, true, true, true, true, true, true, true, true, true, true, true, true, true, true, true, true, false, false, false] rfl rfl (any_of HT_.out (by kernel_rfl)) (fun _ _ _ h => h) (Or.inl ⟨by rfl, ?_⟩) ?_ ?_
                        rotate_left
                        · intro w'
                          go_simp
                          with_reducible rfl
                        rotate_left
                        · simp only [Act.put, List.setIfInBounds_toArray, List.set_cons_zero, List.set_cons_succ, i64_w, i32_w]
                          rfl
                        refine last_ (i := 21) (N := some 35) #[true, true, true, true, true, true, true, true, true, true, true, true, true, true, true, true, true, true, true, true, true, true, false, false] rfl rfl (one_of HT_.out (by kernel_rfl)) (by decide) (fun K hK => ?_)
                        refine value_ (w1 := ?_) (v := ?_) (by rfl) rfl ?_ ?_
                        rotate_left 2
                        · go_simp
                          constructor
                          · rfl
                          · rfl
                        refine hK.out _ _ ?_
                        clear hK K
                        refine norm_ (a' := ?_) ?_ ?_
                        rotate_left
                        · show Act.put _ (some 35) _ = _
                          simp only [Act.put, List.setIfInBounds_toArray, List.set_cons_zero, List.set_cons_succ, i64_w, i32_w]
                          rfl
                        refine last_ (i := 22) (N := some 36) #[true, true, true, true, true, true, true, true, true, true, true, true, true, true, true, true, true, true, true, true, true, true, true, false] rfl rfl (one_of HT_.out (by kernel_rfl)) (by decide) (fun K hK => ?_)
                        refine Kd.R_append_step k24 (w0 := w) w.heap.size (by rfl) (.tmp 14) (.tmp 35) 27 24 (.agg #[(.int .u8 0), (.int .u8 0), (.int .u8 0), (.int .i16 0), (.int .i32 0)]) 12 rfl Try.underlying27 info24 rfl (by decide) (by omega) u4 x4_1 (⟨rd x0_1 0, Go.bits .and .u8 (rd x0_1 1) 15, (rd x0_1 1) / 16, IntKind.i16.wrap (t115), wrap32 (t121)⟩ : S24) [.int .u8 (rd x0_1 0), .int .u8 (Go.bits .and .u8 (rd x0_1 1) 15), .int .u8 ((rd x0_1 1) / 16), .int .i16 (IntKind.i16.wrap (t115)), .int .i32 (wrap32 (t121))] (fun k_ => (w.heap.size ≤ k_)) (fun _ => False) rfl rfl ?aP (fun _ hk => hk.elim) ?aF ?aO ?aB ?aS ?aL ?_
                        (case aP => exact k24_mkM _ _ _ (⟨rd x0_1 0, Go.bits .and .u8 (rd x0_1 1) 15, (rd x0_1 1) / 16, IntKind.i16.wrap (t115), wrap32 (t121)⟩ : S24))
                        (case aB => exact (by repeat (first | (with_reducible first | exact HB.out | apply below_alloc | apply pw_below_drewN | apply below_drew1) | exact HB.out)))
                        (case aF => exact (fun k_ hk => (Nat.le_trans (below_size (by repeat (first | (with_reducible first | exact HB.out | apply below_alloc | apply pw_below_drewN | apply below_drew1) | exact HB.out))) hk)))
                        (case aO => exact (by (with_reducible repeat (first | apply Kd.R_alloc | apply Kd.R_drewN | apply Kd.R_drew)); exact HO_4.out))
                        (case aS => exact (below_size (by repeat (first | (with_reducible first | exact HB.out | apply below_alloc | apply pw_below_drewN | apply below_drew1) | exact HB.out))))
                        (case aL => have := LMc12.out; omega)
                        intro v123 w18 ho hb hg hat
                        rw [← Ny122.out] at ho
                        have n0_ := Aside0.mk (Kd.V_afterv (ok := (fun k_ => (P0_ k_ ∨ w.heap.size ≤ k_))) (by (with_reducible repeat (first | apply Kd.V_alloc | apply Kd.V_drewN | apply Kd.V_drew)); exact HO_0.out) hg hat)
                        have n1_ := Aside0.mk (Kd.V_afterv (ok := (fun k_ => (P0_ k_ ∨ w.heap.size ≤ k_))) (by (with_reducible repeat (first | apply Kd.V_alloc | apply Kd.V_drewN | apply Kd.V_drew)); exact HO114.out) hg hat)
                        have n2_ := Aside0.mk (Kd.V_afterv (ok := (fun k_ => (P0_ k_ ∨ w.heap.size ≤ k_))) (by (with_reducible repeat (first | apply Kd.V_alloc | apply Kd.V_drewN | apply Kd.V_drew)); exact HO120.out) hg hat)
                        have n3_ := Aside0.mk (hb)
                        have n4_ := Aside0.mk (ho)
                        clear HO_0
                        clear HO114
                        clear HO120
                        clear HB
                        clear HO_4
                        have HO_0 := n0_
                        have HO114 := n1_
                        have HO120 := n2_
                        have HB := n3_
                        have HO124 := n4_
                        clear n0_ n1_ n2_ n3_ n4_
                        clear ho hb hg hat
                        refine hK.out _ _ ?_
                        clear hK K
                        refine norm_ (a' := ?_) ?_ ?_
                        rotate_left
                        · show Act.put _ (some 36) _ = _
                          simp only [Act.put, List.setIfInBounds_toArray, List.set_cons_zero, List.set_cons_succ, i64_w, i32_w]
                          rfl
                        refine pure_ (i := 23) (N := some 4) (v := ?_) (a' := ?_) #[true, true, true, true, true, true, true, true, true, true, true, true, true, true, true, true, true, true, true, true, true, true, true, true] rfl rfl (any_of HT_.out (by kernel_rfl)) (fun _ _ _ h => h) (Or.inl ⟨by rfl, ?_⟩) ?_ ?_
                        rotate_left
                        · intro w'
                          go_simp
                          with_reducible rfl
                        rotate_left
                        · simp only [Act.put, List.setIfInBounds_toArray, List.set_cons_zero, List.set_cons_succ, i64_w, i32_w]
                          rfl
                        refine done_ (done_of HT_.out (by kernel_rfl)) ?_
                        have q19 : (8 : Int) ≤ ((x0_1.length : Int) : Int) := of_decide_eq_true (by first | (with_reducible assumption) | assumption)
                        obtain ⟨i019, hi019, _, hsz19, _⟩ := info_parts info5
                        have hroom19 : x0_1.length ≤ co14 := (Kd.V_reads' HO_0.out).2.1
                        have hC19 : Kd.F (Kd.int .u8) _ _ (some ad107) x0_1.length x0_1 := (Kd.V_at (base := w.heap.size) HO_0.out).2.2
                        have hcut19 := cut_from (P := Try.prog) 35 5 .i64 Try.underlying35 hi019 1 hsz19 (some ad107) x0_1.length co14 8 (by omega) q19
                        have hr19 := Kd.F_cut (m := (8 : Int).toNat) (c := co14) hC19 (by omega) hroom19
                        obtain ⟨A19, hA19⟩ : ∃ A1, A1 = (if co14 = (8 : Int).toNat then (some ad107) else ((some ad107) : Option Addr).map (·.add ((8 : Int).toNat * 1))) := ⟨_, rfl⟩
                        obtain ⟨c19, hc19⟩ : ∃ c1, c1 = co14 - (8 : Int).toNat := ⟨_, rfl⟩
                        have hy19 : y125.length = x0_1.length - (8 : Int).toNat := (by rw [Ny125.out, List.length_drop] <;> omega)
                        rw [show (x0_1).drop (8 : Int).toNat = y125 from Ny125.out.symm] at hr19
                        replace hr19 : Kd.F (Kd.int .u8) _ _ A19 y125.length y125 := (by rw [hA19]; exact hr19)
                        rw [← hy19, ← hA19, ← hc19] at hcut19
                        have HO129 := Aside0.mk (show Kd.V (Kd.int .u8) 5 _ w.heap.size _ (.slice A19 y125.length c19) y125 from Kd.V_mk (by rw [hy19, hc19]; exact Nat.sub_le_sub_right hroom19 _) hr19)
                        have HC129 := Aside0.mk (show y125.length ≤ c19 from by rw [hy19, hc19]; exact Nat.sub_le_sub_right hroom19 _)
                        clear hr19 hC19 hroom19 hi019 hsz19 hc19
                        have KY19 := Aside0.mk hy19
                        have KA19 := Aside0.mk hA19
                        clear hy19 hA19
                        replace q19 := eq_true q19
                        try go_wp2
                        go_roundg k1
                        case measure => have := HK1.out; omega
                        case rel => exact ⟨(y125), (y122), H', ⟨by have := HK1.out; omega⟩, ⟨by (with_reducible repeat (first | apply Kd.V_alloc | apply Kd.V_drewN | apply Kd.V_drew)); exact HO129.out⟩, ⟨by (with_reducible repeat (first | apply Kd.R_alloc | apply Kd.R_drewN | apply Kd.R_drew)); exact HO124.out⟩, ⟨by repeat (first | (with_reducible first | exact HB.out | apply below_alloc | apply pw_below_drewN | apply below_drew1) | exact HB.out)⟩⟩
                      · rw [if_neg c12] at H
                        exact absurd H (by simp)
                    · rw [if_neg c10] at H
                      exact absurd H (by simp)
                  · rw [if_neg c9] at H
                    exact absurd H (by simp)
                · rw [if_neg c7] at H
                  exact absurd H (by simp)
              · rw [if_neg c6] at H
                exact absurd H (by simp)
            · rw [if_neg c5] at H
              exact absurd H (by simp)
          · rw [if_neg c4] at H
            exact absurd H (by simp)
        · rw [if_neg c3] at H
          have c3b0 : decide (0 < (x0_1.length : Int)) = false := decide_eq_false c3
          have c3b1 : decide (0 < x0_1.length) = false := decide_eq_false (by omega)
          clear c3
          simp only [Option.some.injEq, Prod.mk.injEq] at H
          obtain ⟨rfl, rfl⟩ := H
          obtain ⟨Ao20, co20, eo20⟩ := Kd.V_slice HO_0.out
          subst eo20
          go_wp2
          go_ret2
          exact ⟨_, by first | rfl | (simp [errW_none, errW_some] <;> rfl) | (simp [*, errW_none, errW_some] <;> rfl), by (with_reducible repeat (first | apply Kd.R_alloc | apply Kd.R_drewN | apply Kd.R_drew)); exact HO_4.out, by repeat (first | (with_reducible first | exact HB.out | apply below_alloc | apply pw_below_drewN | apply below_drew1) | exact HB.out)⟩
  · rw [if_neg c2] at H
    have c2b0 : (((l0.length : Int) % 8) == 0) = false := beq_eq_false_iff_ne.mpr c2
    have c2b1 : (((l0.length : Int) % 8) != 0) = true := bne_iff_ne.mpr c2
    simp only [Option.some.injEq, Prod.mk.injEq] at H
    obtain ⟨rfl, rfl⟩ := H
    go_enter Try.func25, Try.ntmps25
    go_wp2
    go_ret2
    exact ⟨_, by first | rfl | (simp [errW_none, errW_some] <;> rfl) | (simp [*, errW_none, errW_some] <;> rfl), by first | exact Kd.R_nil _ _ _ _ _ | exact Kd.N_nil _ _ _ _ _ | exact Kd.V_nil _ _ _ _ _ | exact Kd.Q_nil _ _ _ _ _ | exact Kd.S_nil _ _ _ _ _, by repeat (first | (with_reducible first | exact HB.out | apply below_alloc | apply pw_below_drewN | apply below_drew1) | exact HB.out)⟩

/-! ### posternlaw02_first: function 13 -/
def posternlaw02_first.f (k : Nat)  : Option (Bool) := (insn_Decode.f k (([183, 33, 255, 255, 5, 0, 0, 128] : List Int))).bind fun bt133 => (if bt133.2 = 0 then (if (bt133.1.length : Int) = 1 then (if 0 < (bt133.1.length : Int) then (if (((rd_T24 bt133.1 0).f0) == 183 && (((rd_T24 bt133.1 0).f1) == 1 && (((rd_T24 bt133.1 0).f2) == 2 && (((rd_T24 bt133.1 0).f3) == (-1) && (((rd_T24 bt133.1 0).f4) == (-2147483643)))))) = true then ((insn_Known.f k 24).bind fun t138 => (if t138 = true then ((insn_Known.f k 140).bind fun t139 => (some (!t139))) else (some false))) else (some false)) else (none)) else (some false)) else (some false))
theorem posternlaw02_first.mono : ∀ k, LeO (posternlaw02_first.f k ) (posternlaw02_first.f (k + 1) ) := by
  intro  k
  unfold posternlaw02_first.f
  repeat' first
      | (with_reducible exact insn_Decode.mono _ _)
      | (with_reducible exact insn_Known.mono _ _)
      | (with_reducible exact LeO.refl _)
      | (with_reducible exact LeO.none _)
      | (with_reducible refine LeO.ite ?_ ?_)
      | (with_reducible refine LeO.bind ?_ (fun _ => ?_))
      | exact insn_Decode.mono _ _
      | exact insn_Known.mono _ _
      | exact LeO.none _
      | refine LeO.ite ?_ ?_
      | refine LeO.bind ?_ (fun _ => ?_)
set_option maxHeartbeats 8000000 in
set_option maxRecDepth 100000 in
theorem posternlaw02_first.calls (k : Nat)  (r : Bool) (w : World) (h : posternlaw02_first.f k  = some r) :
    Calls Try.prog 13 #[] w fun e w' => e = .returned (.bool r) ∧ Below w.heap.size w w' := by
  have hu24 := Try.underlying24
  have HB := Aside0.mk (Below.refl w.heap.size w)
  have H : ((insn_Decode.f k (([183, 33, 255, 255, 5, 0, 0, 128] : List Int))).bind fun bt133 => (if bt133.2 = 0 then (if (bt133.1.length : Int) = 1 then (if 0 < (bt133.1.length : Int) then (if (((rd_T24 bt133.1 0).f0) == 183 && (((rd_T24 bt133.1 0).f1) == 1 && (((rd_T24 bt133.1 0).f2) == 2 && (((rd_T24 bt133.1 0).f3) == (-1) && (((rd_T24 bt133.1 0).f4) == (-2147483643)))))) = true then ((insn_Known.f k 24).bind fun t138 => (if t138 = true then ((insn_Known.f k 140).bind fun t139 => (some (!t139))) else (some false))) else (some false)) else (none)) else (some false)) else (some false))) = some r := h
  clear h
  obtain ⟨y130, hy130⟩ : ∃ y_ : List Int, y_ = (([183, 33, 255, 255, 5, 0, 0, 128] : List Int)) := ⟨_, rfl⟩
  replace H : ((insn_Decode.f k y130).bind fun bt133 => (if bt133.2 = 0 then (if (bt133.1.length : Int) = 1 then (if 0 < (bt133.1.length : Int) then (if (((rd_T24 bt133.1 0).f0) == 183 && (((rd_T24 bt133.1 0).f1) == 1 && (((rd_T24 bt133.1 0).f2) == 2 && (((rd_T24 bt133.1 0).f3) == (-1) && (((rd_T24 bt133.1 0).f4) == (-2147483643)))))) = true then ((insn_Known.f k 24).bind fun t138 => (if t138 = true then ((insn_Known.f k 140).bind fun t139 => (some (!t139))) else (some false))) else (some false)) else (none)) else (some false)) else (some false))) = some r := by first | (rw [hy130]; with_reducible exact H) | (have H2_ := (Option.bind_some _ _).symm.trans H; rw [hy130]; with_reducible exact H2_) | (have H2_ := (Option.bind_some _ _).symm.trans H; with_reducible exact H2_) | with_reducible exact H | (rw [hy130]; exact H) | exact H
  have Ny130 := Aside0.mk hy130
  clear hy130
  replace H := Option.bind_eq_some_iff.mp H
  obtain ⟨⟨t133, t136⟩, A10, H⟩ := H
  replace H : (if t136 = 0 then (if (t133.length : Int) = 1 then (if 0 < (t133.length : Int) then (if (((rd_T24 t133 0).f0) == 183 && (((rd_T24 t133 0).f1) == 1 && (((rd_T24 t133 0).f2) == 2 && (((rd_T24 t133 0).f3) == (-1) && (((rd_T24 t133 0).f4) == (-2147483643)))))) = true then ((insn_Known.f k 24).bind fun t138 => (if t138 = true then ((insn_Known.f k 140).bind fun t139 => (some (!t139))) else (some false))) else (some false)) else (none)) else (some false)) else (some false)) = some r := H
  have A1 := Aside0.mk A10
  clear A10
  by_cases c2 : t136 = 0
  · rw [if_pos c2] at H
    have c2b0 : (t136 == 0) = true := beq_iff_eq.mpr c2
    have c2b1 : (t136 != 0) = false := bne_eq_false_iff_eq.mpr c2
    clear c2
    by_cases c3 : (t133.length : Int) = 1
    · rw [if_pos c3] at H
      have c3b0 : ((t133.length : Int) == 1) = true := beq_iff_eq.mpr c3
      have c3b1 : ((t133.length : Int) != 1) = false := bne_eq_false_iff_eq.mpr c3
      clear c3
      by_cases c4 : 0 < (t133.length : Int)
      · rw [if_pos c4] at H
        have c4b0 : decide (0 < (t133.length : Int)) = true := decide_eq_true c4
        have c4b1 : decide (0 < t133.length) = true := decide_eq_true (by omega)
        clear c4
        by_cases c5 : (((rd_T24 t133 0).f0) == 183 && (((rd_T24 t133 0).f1) == 1 && (((rd_T24 t133 0).f2) == 2 && (((rd_T24 t133 0).f3) == (-1) && (((rd_T24 t133 0).f4) == (-2147483643)))))) = true
        · rw [if_pos c5] at H
          have c5b0 : (((rd_T24 t133 0).f0) == 183 && (((rd_T24 t133 0).f1) == 1 && (((rd_T24 t133 0).f2) == 2 && (((rd_T24 t133 0).f3) == (-1) && (((rd_T24 t133 0).f4) == (-2147483643)))))) = true := c5
          (try (have c5b1 : decide (((rd_T24 t133 0).f0) = 183 && (((rd_T24 t133 0).f1) == 1 && (((rd_T24 t133 0).f2) == 2 && (((rd_T24 t133 0).f3) == (-1) && (((rd_T24 t133 0).f4) == (-2147483643)))))) = true := by simpa using c5))
          (try (have c5b2 : (((rd_T24 t133 0).f0) == 183 && (((rd_T24 t133 0).f1) == 1 && (((rd_T24 t133 0).f2) == 2 && (((rd_T24 t133 0).f3) == (-1) && (((rd_T24 t133 0).f4) == (-2147483643)))))) = true := by simpa using c5))
          clear c5
          replace H := Option.bind_eq_some_iff.mp H
          obtain ⟨t138, A60, H⟩ := H
          replace H : (if t138 = true then ((insn_Known.f k 140).bind fun t139 => (some (!t139))) else (some false)) = some r := H
          have A6 := Aside0.mk A60
          clear A60
          by_cases c7 : t138 = true
          · subst c7
            have H1 : ((insn_Known.f k 140).bind fun t139 => (some (!t139))) = some r := by rw [if_pos rfl] at H; exact H
            clear H
            have H := H1
            clear H1
            replace H := Option.bind_eq_some_iff.mp H
            obtain ⟨t139, A80, H⟩ := H
            replace H : (some (!t139)) = some r := H
            have A8 := Aside0.mk A80
            clear A80
            obtain rfl := Option.some.inj H
            go_enter Try.func13, Try.ntmps13
            go_wp2_with (first | ((with_reducible refine gate_dst (N := 4) rfl ?_); (try (refine gate_guard (by rfl) ?_; dsimp only)); refine Kd.R_lit (Kd.int .u8) _ 5 ?hg (N := 4) ?hd (xs := ([183, 33, 255, 255, 5, 0, 0, 128] : List Int)) (inner := [.int .u8 183, .int .u8 33, .int .u8 255, .int .u8 255, .int .u8 5, .int .u8 0, .int .u8 0, .int .u8 128]) (ok := fun _ => True) (okp := fun _ => True) ?hr ?hp (fun _ hk => hk) trivial (Below.refl _ _) (Nat.le_refl _) (by simp) ?_; (case hd => rfl); (case hg => rfl); (case hr => first | (go_simp; done) | (go_simp; rfl)); (case hp => exact (Reps.one (show Kd.M (Kd.int .u8) _ _ _ 183 [.int .u8 183] from rfl) (Reps.one (show Kd.M (Kd.int .u8) _ _ _ 33 [.int .u8 33] from rfl) (Reps.one (show Kd.M (Kd.int .u8) _ _ _ 255 [.int .u8 255] from rfl) (Reps.one (show Kd.M (Kd.int .u8) _ _ _ 255 [.int .u8 255] from rfl) (Reps.one (show Kd.M (Kd.int .u8) _ _ _ 5 [.int .u8 5] from rfl) (Reps.one (show Kd.M (Kd.int .u8) _ _ _ 0 [.int .u8 0] from rfl) (Reps.one (show Kd.M (Kd.int .u8) _ _ _ 0 [.int .u8 0] from rfl) (Reps.one (show Kd.M (Kd.int .u8) _ _ _ 128 [.int .u8 128] from rfl) (Reps.none _ _)))))))))); intro v131 w9 ho10 hb hg_ hnew_; clear hg_ hnew_; (first | rw [← Ny130.out] at ho10 | (simp only [Int.reduceToNat] at ho10; rw [← Ny130.out] at ho10)); have n0_ := Aside0.mk (Kd.R_lower ho10 (below_size (by repeat (first | (with_reducible first | exact HB.out | apply below_alloc | apply pw_below_drewN | apply below_drew1) | exact HB.out)))); have n1_ := Aside0.mk (below_step (by repeat (first | (with_reducible first | exact HB.out | apply below_alloc | apply pw_below_drewN | apply below_drew1) | exact HB.out)) hb); clear HB; have HO132 := n0_; have HB := n1_; clear n0_ n1_; clear hb ho10; obtain ⟨Ao11, co11, eo11⟩ := Kd.R_slice HO132.out; subst eo11) | ((with_reducible refine gate_callee (f := 25) rfl ?_); refine goesL_ (some 5) rfl rfl Try.func25 (by kernel_rfl) rfl #[.slice Ao11 y130.length co11] rfl (by (try simp only [List.map_toArray, List.map_cons, List.map_nil]); first | done | rfl | (simp only [List.length_drop, List.length_take]; rfl)) ?_; (with_reducible refine (insn_Decode.calls k (fun k_ => some k_ = (.slice Ao11 y130.length co11 : Value).ownBlock) _ _ y130 t133 t136 _ ?side1 A1.out).mono ?_); (case side1 => exact Kd.R_V (Kd.R_tight rfl (HO132.out))); rintro e w12 ⟨v134, rfl, ho0, hb⟩; refine ⟨_, rfl, ?_⟩; have n0_ := Aside0.mk (Kd.R_below (by (with_reducible repeat (first | apply Kd.R_alloc | apply Kd.R_drewN | apply Kd.R_drew)); exact HO132.out) hb); have n1_ := Aside0.mk (Kd.R_lower (Kd.R_mono (ok' := fun k_ => True) ho0 (fun _ hk_ => trivial)) (below_size (by repeat (first | (with_reducible first | exact HB.out | apply below_alloc | apply pw_below_drewN | apply below_drew1) | exact HB.out)))); have n2_ := Aside0.mk (below_step (by repeat (first | (with_reducible first | exact HB.out | apply below_alloc | apply pw_below_drewN | apply below_drew1) | exact HB.out)) hb); clear HO132; clear HB; have HO132 := n0_; have HO135 := n1_; have HB := n2_; clear n0_ n1_ n2_; (try clear hb); (try clear hb2); (try clear hk); (try clear hi); (try clear ho0); obtain ⟨Ao13, co13, eo13⟩ := Kd.R_slice HO135.out; subst eo13; have p137 : 0 ≤ (0 : Int) := (by omega); have q137 : 0 < (t133.length : Int) := of_decide_eq_true (by first | (with_reducible assumption) | assumption); obtain ⟨ad137, e137, hx137_0, hx137_1, hx137_2, hx137_3, hx137_4⟩ := at_T24 (Kd.R_reads' HO135.out).2.2 0 p137 q137; cases e137; have qi137 : (0 < t133.length) = True := eq_true (by omega); (try rw [show ((0 : Int)).toNat = 0 from rfl] at hx137_0); (try rw [show 0 * 5 = 0 from rfl] at hx137_0); (try rw [Addr.add_zero'] at hx137_0); (try rw [show ((0 : Int)).toNat = 0 from rfl] at hx137_1); (try rw [show 0 * 5 = 0 from rfl] at hx137_1); (try rw [Addr.add_zero'] at hx137_1); (try rw [show ((0 : Int)).toNat = 0 from rfl] at hx137_2); (try rw [show 0 * 5 = 0 from rfl] at hx137_2); (try rw [Addr.add_zero'] at hx137_2); (try rw [show ((0 : Int)).toNat = 0 from rfl] at hx137_3); (try rw [show 0 * 5 = 0 from rfl] at hx137_3); (try rw [Addr.add_zero'] at hx137_3); (try rw [show ((0 : Int)).toNat = 0 from rfl] at hx137_4); (try rw [show 0 * 5 = 0 from rfl] at hx137_4); (try rw [Addr.add_zero'] at hx137_4); replace p137 := eq_true p137; replace q137 := eq_true q137) | (go_at_call 17; (with_reducible refine (insn_Known.calls k 24 true _ A6.out).mono ?_); rintro e w' ⟨rfl, ⟨nd, rfl⟩⟩) | (go_at_call 17; (with_reducible refine (insn_Known.calls k 140 t139 _ A8.out).mono ?_); rintro e w' ⟨rfl, ⟨nd, rfl⟩⟩))
            go_ret
            exact ⟨by first | rfl | (simp [errW_none, errW_some] <;> rfl) | (simp [*, errW_none, errW_some] <;> rfl), by repeat (first | (with_reducible first | exact HB.out | apply below_alloc | apply pw_below_drewN | apply below_drew1) | exact HB.out)⟩
          · replace c7 := Bool.eq_false_iff.mpr c7
            subst c7
            have H1 : (some false) = some r := by rw [if_neg (show ¬ (false = true) by decide)] at H; exact H
            clear H
            have H := H1
            clear H1
            obtain rfl := Option.some.inj H
            go_enter Try.func13, Try.ntmps13
            go_wp2_with (first | ((with_reducible refine gate_dst (N := 4) rfl ?_); (try (refine gate_guard (by rfl) ?_; dsimp only)); refine Kd.R_lit (Kd.int .u8) _ 5 ?hg (N := 4) ?hd (xs := ([183, 33, 255, 255, 5, 0, 0, 128] : List Int)) (inner := [.int .u8 183, .int .u8 33, .int .u8 255, .int .u8 255, .int .u8 5, .int .u8 0, .int .u8 0, .int .u8 128]) (ok := fun _ => True) (okp := fun _ => True) ?hr ?hp (fun _ hk => hk) trivial (Below.refl _ _) (Nat.le_refl _) (by simp) ?_; (case hd => rfl); (case hg => rfl); (case hr => first | (go_simp; done) | (go_simp; rfl)); (case hp => exact (Reps.one (show Kd.M (Kd.int .u8) _ _ _ 183 [.int .u8 183] from rfl) (Reps.one (show Kd.M (Kd.int .u8) _ _ _ 33 [.int .u8 33] from rfl) (Reps.one (show Kd.M (Kd.int .u8) _ _ _ 255 [.int .u8 255] from rfl) (Reps.one (show Kd.M (Kd.int .u8) _ _ _ 255 [.int .u8 255] from rfl) (Reps.one (show Kd.M (Kd.int .u8) _ _ _ 5 [.int .u8 5] from rfl) (Reps.one (show Kd.M (Kd.int .u8) _ _ _ 0 [.int .u8 0] from rfl) (Reps.one (show Kd.M (Kd.int .u8) _ _ _ 0 [.int .u8 0] from rfl) (Reps.one (show Kd.M (Kd.int .u8) _ _ _ 128 [.int .u8 128] from rfl) (Reps.none _ _)))))))))); intro v131 w14 ho15 hb hg_ hnew_; clear hg_ hnew_; (first | rw [← Ny130.out] at ho15 | (simp only [Int.reduceToNat] at ho15; rw [← Ny130.out] at ho15)); have n0_ := Aside0.mk (Kd.R_lower ho15 (below_size (by repeat (first | (with_reducible first | exact HB.out | apply below_alloc | apply pw_below_drewN | apply below_drew1) | exact HB.out)))); have n1_ := Aside0.mk (below_step (by repeat (first | (with_reducible first | exact HB.out | apply below_alloc | apply pw_below_drewN | apply below_drew1) | exact HB.out)) hb); clear HB; have HO132 := n0_; have HB := n1_; clear n0_ n1_; clear hb ho15; obtain ⟨Ao16, co16, eo16⟩ := Kd.R_slice HO132.out; subst eo16) | ((with_reducible refine gate_callee (f := 25) rfl ?_); refine goesL_ (some 5) rfl rfl Try.func25 (by kernel_rfl) rfl #[.slice Ao16 y130.length co16] rfl (by (try simp only [List.map_toArray, List.map_cons, List.map_nil]); first | done | rfl | (simp only [List.length_drop, List.length_take]; rfl)) ?_; (with_reducible refine (insn_Decode.calls k (fun k_ => some k_ = (.slice Ao16 y130.length co16 : Value).ownBlock) _ _ y130 t133 t136 _ ?side1 A1.out).mono ?_); (case side1 => exact Kd.R_V (Kd.R_tight rfl (HO132.out))); rintro e w17 ⟨v134, rfl, ho0, hb⟩; refine ⟨_, rfl, ?_⟩; have n0_ := Aside0.mk (Kd.R_below (by (with_reducible repeat (first | apply Kd.R_alloc | apply Kd.R_drewN | apply Kd.R_drew)); exact HO132.out) hb); have n1_ := Aside0.mk (Kd.R_lower (Kd.R_mono (ok' := fun k_ => True) ho0 (fun _ hk_ => trivial)) (below_size (by repeat (first | (with_reducible first | exact HB.out | apply below_alloc | apply pw_below_drewN | apply below_drew1) | exact HB.out)))); have n2_ := Aside0.mk (below_step (by repeat (first | (with_reducible first | exact HB.out | apply below_alloc | apply pw_below_drewN | apply below_drew1) | exact HB.out)) hb); clear HO132; clear HB; have HO132 := n0_; have HO135 := n1_; have HB := n2_; clear n0_ n1_ n2_; (try clear hb); (try clear hb2); (try clear hk); (try clear hi); (try clear ho0); obtain ⟨Ao18, co18, eo18⟩ := Kd.R_slice HO135.out; subst eo18; have p137 : 0 ≤ (0 : Int) := (by omega); have q137 : 0 < (t133.length : Int) := of_decide_eq_true (by first | (with_reducible assumption) | assumption); obtain ⟨ad137, e137, hx137_0, hx137_1, hx137_2, hx137_3, hx137_4⟩ := at_T24 (Kd.R_reads' HO135.out).2.2 0 p137 q137; cases e137; have qi137 : (0 < t133.length) = True := eq_true (by omega); (try rw [show ((0 : Int)).toNat = 0 from rfl] at hx137_0); (try rw [show 0 * 5 = 0 from rfl] at hx137_0); (try rw [Addr.add_zero'] at hx137_0); (try rw [show ((0 : Int)).toNat = 0 from rfl] at hx137_1); (try rw [show 0 * 5 = 0 from rfl] at hx137_1); (try rw [Addr.add_zero'] at hx137_1); (try rw [show ((0 : Int)).toNat = 0 from rfl] at hx137_2); (try rw [show 0 * 5 = 0 from rfl] at hx137_2); (try rw [Addr.add_zero'] at hx137_2); (try rw [show ((0 : Int)).toNat = 0 from rfl] at hx137_3); (try rw [show 0 * 5 = 0 from rfl] at hx137_3); (try rw [Addr.add_zero'] at hx137_3); (try rw [show ((0 : Int)).toNat = 0 from rfl] at hx137_4); (try rw [show 0 * 5 = 0 from rfl] at hx137_4); (try rw [Addr.add_zero'] at hx137_4); replace p137 := eq_true p137; replace q137 := eq_true q137) | (go_at_call 17; (with_reducible refine (insn_Known.calls k 24 false _ A6.out).mono ?_); rintro e w' ⟨rfl, ⟨nd, rfl⟩⟩))
            go_ret
            exact ⟨by first | rfl | (simp [errW_none, errW_some] <;> rfl) | (simp [*, errW_none, errW_some] <;> rfl), by repeat (first | (with_reducible first | exact HB.out | apply below_alloc | apply pw_below_drewN | apply below_drew1) | exact HB.out)⟩
        · rw [if_neg c5] at H
          have c5b0 : (((rd_T24 t133 0).f0) == 183 && (((rd_T24 t133 0).f1) == 1 && (((rd_T24 t133 0).f2) == 2 && (((rd_T24 t133 0).f3) == (-1) && (((rd_T24 t133 0).f4) == (-2147483643)))))) = false := by simpa using c5
          (try (have c5b1 : decide (((rd_T24 t133 0).f0) = 183 && (((rd_T24 t133 0).f1) == 1 && (((rd_T24 t133 0).f2) == 2 && (((rd_T24 t133 0).f3) == (-1) && (((rd_T24 t133 0).f4) == (-2147483643)))))) = false := by simpa using c5))
          (try (have c5b2 : (((rd_T24 t133 0).f0) == 183 && (((rd_T24 t133 0).f1) == 1 && (((rd_T24 t133 0).f2) == 2 && (((rd_T24 t133 0).f3) == (-1) && (((rd_T24 t133 0).f4) == (-2147483643)))))) = false := by simpa using c5))
          (try (have c5b3 : ¬ (((rd_T24 t133 0).f0) = 183 && (((rd_T24 t133 0).f1) == 1 && (((rd_T24 t133 0).f2) == 2 && (((rd_T24 t133 0).f3) == (-1) && (((rd_T24 t133 0).f4) == (-2147483643)))))) := by simpa using c5))
          clear c5
          obtain rfl := Option.some.inj H
          go_enter Try.func13, Try.ntmps13
          go_wp2_with (first | ((with_reducible refine gate_dst (N := 4) rfl ?_); (try (refine gate_guard (by rfl) ?_; dsimp only)); refine Kd.R_lit (Kd.int .u8) _ 5 ?hg (N := 4) ?hd (xs := ([183, 33, 255, 255, 5, 0, 0, 128] : List Int)) (inner := [.int .u8 183, .int .u8 33, .int .u8 255, .int .u8 255, .int .u8 5, .int .u8 0, .int .u8 0, .int .u8 128]) (ok := fun _ => True) (okp := fun _ => True) ?hr ?hp (fun _ hk => hk) trivial (Below.refl _ _) (Nat.le_refl _) (by simp) ?_; (case hd => rfl); (case hg => rfl); (case hr => first | (go_simp; done) | (go_simp; rfl)); (case hp => exact (Reps.one (show Kd.M (Kd.int .u8) _ _ _ 183 [.int .u8 183] from rfl) (Reps.one (show Kd.M (Kd.int .u8) _ _ _ 33 [.int .u8 33] from rfl) (Reps.one (show Kd.M (Kd.int .u8) _ _ _ 255 [.int .u8 255] from rfl) (Reps.one (show Kd.M (Kd.int .u8) _ _ _ 255 [.int .u8 255] from rfl) (Reps.one (show Kd.M (Kd.int .u8) _ _ _ 5 [.int .u8 5] from rfl) (Reps.one (show Kd.M (Kd.int .u8) _ _ _ 0 [.int .u8 0] from rfl) (Reps.one (show Kd.M (Kd.int .u8) _ _ _ 0 [.int .u8 0] from rfl) (Reps.one (show Kd.M (Kd.int .u8) _ _ _ 128 [.int .u8 128] from rfl) (Reps.none _ _)))))))))); intro v131 w19 ho20 hb hg_ hnew_; clear hg_ hnew_; (first | rw [← Ny130.out] at ho20 | (simp only [Int.reduceToNat] at ho20; rw [← Ny130.out] at ho20)); have n0_ := Aside0.mk (Kd.R_lower ho20 (below_size (by repeat (first | (with_reducible first | exact HB.out | apply below_alloc | apply pw_below_drewN | apply below_drew1) | exact HB.out)))); have n1_ := Aside0.mk (below_step (by repeat (first | (with_reducible first | exact HB.out | apply below_alloc | apply pw_below_drewN | apply below_drew1) | exact HB.out)) hb); clear HB; have HO132 := n0_; have HB := n1_; clear n0_ n1_; clear hb ho20; obtain ⟨Ao21, co21, eo21⟩ := Kd.R_slice HO132.out; subst eo21) | ((with_reducible refine gate_callee (f := 25) rfl ?_); refine goesL_ (some 5) rfl rfl Try.func25 (by kernel_rfl) rfl #[.slice Ao21 y130.length co21] rfl (by (try simp only [List.map_toArray, List.map_cons, List.map_nil]); first | done | rfl | (simp only [List.length_drop, List.length_take]; rfl)) ?_; (with_reducible refine (insn_Decode.calls k (fun k_ => some k_ = (.slice Ao21 y130.length co21 : Value).ownBlock) _ _ y130 t133 t136 _ ?side1 A1.out).mono ?_); (case side1 => exact Kd.R_V (Kd.R_tight rfl (HO132.out))); rintro e w22 ⟨v134, rfl, ho0, hb⟩; refine ⟨_, rfl, ?_⟩; have n0_ := Aside0.mk (Kd.R_below (by (with_reducible repeat (first | apply Kd.R_alloc | apply Kd.R_drewN | apply Kd.R_drew)); exact HO132.out) hb); have n1_ := Aside0.mk (Kd.R_lower (Kd.R_mono (ok' := fun k_ => True) ho0 (fun _ hk_ => trivial)) (below_size (by repeat (first | (with_reducible first | exact HB.out | apply below_alloc | apply pw_below_drewN | apply below_drew1) | exact HB.out)))); have n2_ := Aside0.mk (below_step (by repeat (first | (with_reducible first | exact HB.out | apply below_alloc | apply pw_below_drewN | apply below_drew1) | exact HB.out)) hb); clear HO132; clear HB; have HO132 := n0_; have HO135 := n1_; have HB := n2_; clear n0_ n1_ n2_; (try clear hb); (try clear hb2); (try clear hk); (try clear hi); (try clear ho0); obtain ⟨Ao23, co23, eo23⟩ := Kd.R_slice HO135.out; subst eo23; have p137 : 0 ≤ (0 : Int) := (by omega); have q137 : 0 < (t133.length : Int) := of_decide_eq_true (by first | (with_reducible assumption) | assumption); obtain ⟨ad137, e137, hx137_0, hx137_1, hx137_2, hx137_3, hx137_4⟩ := at_T24 (Kd.R_reads' HO135.out).2.2 0 p137 q137; cases e137; have qi137 : (0 < t133.length) = True := eq_true (by omega); (try rw [show ((0 : Int)).toNat = 0 from rfl] at hx137_0); (try rw [show 0 * 5 = 0 from rfl] at hx137_0); (try rw [Addr.add_zero'] at hx137_0); (try rw [show ((0 : Int)).toNat = 0 from rfl] at hx137_1); (try rw [show 0 * 5 = 0 from rfl] at hx137_1); (try rw [Addr.add_zero'] at hx137_1); (try rw [show ((0 : Int)).toNat = 0 from rfl] at hx137_2); (try rw [show 0 * 5 = 0 from rfl] at hx137_2); (try rw [Addr.add_zero'] at hx137_2); (try rw [show ((0 : Int)).toNat = 0 from rfl] at hx137_3); (try rw [show 0 * 5 = 0 from rfl] at hx137_3); (try rw [Addr.add_zero'] at hx137_3); (try rw [show ((0 : Int)).toNat = 0 from rfl] at hx137_4); (try rw [show 0 * 5 = 0 from rfl] at hx137_4); (try rw [Addr.add_zero'] at hx137_4); replace p137 := eq_true p137; replace q137 := eq_true q137))
          go_ret
          exact ⟨by first | rfl | (simp [errW_none, errW_some] <;> rfl) | (simp [*, errW_none, errW_some] <;> rfl), by repeat (first | (with_reducible first | exact HB.out | apply below_alloc | apply pw_below_drewN | apply below_drew1) | exact HB.out)⟩
      · rw [if_neg c4] at H
        exact absurd H (by simp)
    · rw [if_neg c3] at H
      have c3b0 : ((t133.length : Int) == 1) = false := beq_eq_false_iff_ne.mpr c3
      have c3b1 : ((t133.length : Int) != 1) = true := bne_iff_ne.mpr c3
      obtain rfl := Option.some.inj H
      go_enter Try.func13, Try.ntmps13
      go_wp2_with (first | ((with_reducible refine gate_dst (N := 4) rfl ?_); (try (refine gate_guard (by rfl) ?_; dsimp only)); refine Kd.R_lit (Kd.int .u8) _ 5 ?hg (N := 4) ?hd (xs := ([183, 33, 255, 255, 5, 0, 0, 128] : List Int)) (inner := [.int .u8 183, .int .u8 33, .int .u8 255, .int .u8 255, .int .u8 5, .int .u8 0, .int .u8 0, .int .u8 128]) (ok := fun _ => True) (okp := fun _ => True) ?hr ?hp (fun _ hk => hk) trivial (Below.refl _ _) (Nat.le_refl _) (by simp) ?_; (case hd => rfl); (case hg => rfl); (case hr => first | (go_simp; done) | (go_simp; rfl)); (case hp => exact (Reps.one (show Kd.M (Kd.int .u8) _ _ _ 183 [.int .u8 183] from rfl) (Reps.one (show Kd.M (Kd.int .u8) _ _ _ 33 [.int .u8 33] from rfl) (Reps.one (show Kd.M (Kd.int .u8) _ _ _ 255 [.int .u8 255] from rfl) (Reps.one (show Kd.M (Kd.int .u8) _ _ _ 255 [.int .u8 255] from rfl) (Reps.one (show Kd.M (Kd.int .u8) _ _ _ 5 [.int .u8 5] from rfl) (Reps.one (show Kd.M (Kd.int .u8) _ _ _ 0 [.int .u8 0] from rfl) (Reps.one (show Kd.M (Kd.int .u8) _ _ _ 0 [.int .u8 0] from rfl) (Reps.one (show Kd.M (Kd.int .u8) _ _ _ 128 [.int .u8 128] from rfl) (Reps.none _ _)))))))))); intro v131 w24 ho25 hb hg_ hnew_; clear hg_ hnew_; (first | rw [← Ny130.out] at ho25 | (simp only [Int.reduceToNat] at ho25; rw [← Ny130.out] at ho25)); have n0_ := Aside0.mk (Kd.R_lower ho25 (below_size (by repeat (first | (with_reducible first | exact HB.out | apply below_alloc | apply pw_below_drewN | apply below_drew1) | exact HB.out)))); have n1_ := Aside0.mk (below_step (by repeat (first | (with_reducible first | exact HB.out | apply below_alloc | apply pw_below_drewN | apply below_drew1) | exact HB.out)) hb); clear HB; have HO132 := n0_; have HB := n1_; clear n0_ n1_; clear hb ho25; obtain ⟨Ao26, co26, eo26⟩ := Kd.R_slice HO132.out; subst eo26) | ((with_reducible refine gate_callee (f := 25) rfl ?_); refine goesL_ (some 5) rfl rfl Try.func25 (by kernel_rfl) rfl #[.slice Ao26 y130.length co26] rfl (by (try simp only [List.map_toArray, List.map_cons, List.map_nil]); first | done | rfl | (simp only [List.length_drop, List.length_take]; rfl)) ?_; (with_reducible refine (insn_Decode.calls k (fun k_ => some k_ = (.slice Ao26 y130.length co26 : Value).ownBlock) _ _ y130 t133 t136 _ ?side1 A1.out).mono ?_); (case side1 => exact Kd.R_V (Kd.R_tight rfl (HO132.out))); rintro e w27 ⟨v134, rfl, ho0, hb⟩; refine ⟨_, rfl, ?_⟩; have n0_ := Aside0.mk (Kd.R_below (by (with_reducible repeat (first | apply Kd.R_alloc | apply Kd.R_drewN | apply Kd.R_drew)); exact HO132.out) hb); have n1_ := Aside0.mk (Kd.R_lower (Kd.R_mono (ok' := fun k_ => True) ho0 (fun _ hk_ => trivial)) (below_size (by repeat (first | (with_reducible first | exact HB.out | apply below_alloc | apply pw_below_drewN | apply below_drew1) | exact HB.out)))); have n2_ := Aside0.mk (below_step (by repeat (first | (with_reducible first | exact HB.out | apply below_alloc | apply pw_below_drewN | apply below_drew1) | exact HB.out)) hb); clear HO132; clear HB; have HO132 := n0_; have HO135 := n1_; have HB := n2_; clear n0_ n1_ n2_; (try clear hb); (try clear hb2); (try clear hk); (try clear hi); (try clear ho0); obtain ⟨Ao28, co28, eo28⟩ := Kd.R_slice HO135.out; subst eo28))
      go_ret
      exact ⟨by first | rfl | (simp [errW_none, errW_some] <;> rfl) | (simp [*, errW_none, errW_some] <;> rfl), by repeat (first | (with_reducible first | exact HB.out | apply below_alloc | apply pw_below_drewN | apply below_drew1) | exact HB.out)⟩
  · rw [if_neg c2] at H
    have c2b0 : (t136 == 0) = false := beq_eq_false_iff_ne.mpr c2
    have c2b1 : (t136 != 0) = true := bne_iff_ne.mpr c2
    obtain rfl := Option.some.inj H
    go_enter Try.func13, Try.ntmps13
    go_wp2_with (first | ((with_reducible refine gate_dst (N := 4) rfl ?_); (try (refine gate_guard (by rfl) ?_; dsimp only)); refine Kd.R_lit (Kd.int .u8) _ 5 ?hg (N := 4) ?hd (xs := ([183, 33, 255, 255, 5, 0, 0, 128] : List Int)) (inner := [.int .u8 183, .int .u8 33, .int .u8 255, .int .u8 255, .int .u8 5, .int .u8 0, .int .u8 0, .int .u8 128]) (ok := fun _ => True) (okp := fun _ => True) ?hr ?hp (fun _ hk => hk) trivial (Below.refl _ _) (Nat.le_refl _) (by simp) ?_; (case hd => rfl); (case hg => rfl); (case hr => first | (go_simp; done) | (go_simp; rfl)); (case hp => exact (Reps.one (show Kd.M (Kd.int .u8) _ _ _ 183 [.int .u8 183] from rfl) (Reps.one (show Kd.M (Kd.int .u8) _ _ _ 33 [.int .u8 33] from rfl) (Reps.one (show Kd.M (Kd.int .u8) _ _ _ 255 [.int .u8 255] from rfl) (Reps.one (show Kd.M (Kd.int .u8) _ _ _ 255 [.int .u8 255] from rfl) (Reps.one (show Kd.M (Kd.int .u8) _ _ _ 5 [.int .u8 5] from rfl) (Reps.one (show Kd.M (Kd.int .u8) _ _ _ 0 [.int .u8 0] from rfl) (Reps.one (show Kd.M (Kd.int .u8) _ _ _ 0 [.int .u8 0] from rfl) (Reps.one (show Kd.M (Kd.int .u8) _ _ _ 128 [.int .u8 128] from rfl) (Reps.none _ _)))))))))); intro v131 w29 ho30 hb hg_ hnew_; clear hg_ hnew_; (first | rw [← Ny130.out] at ho30 | (simp only [Int.reduceToNat] at ho30; rw [← Ny130.out] at ho30)); have n0_ := Aside0.mk (Kd.R_lower ho30 (below_size (by repeat (first | (with_reducible first | exact HB.out | apply below_alloc | apply pw_below_drewN | apply below_drew1) | exact HB.out)))); have n1_ := Aside0.mk (below_step (by repeat (first | (with_reducible first | exact HB.out | apply below_alloc | apply pw_below_drewN | apply below_drew1) | exact HB.out)) hb); clear HB; have HO132 := n0_; have HB := n1_; clear n0_ n1_; clear hb ho30; obtain ⟨Ao31, co31, eo31⟩ := Kd.R_slice HO132.out; subst eo31) | ((with_reducible refine gate_callee (f := 25) rfl ?_); refine goesL_ (some 5) rfl rfl Try.func25 (by kernel_rfl) rfl #[.slice Ao31 y130.length co31] rfl (by (try simp only [List.map_toArray, List.map_cons, List.map_nil]); first | done | rfl | (simp only [List.length_drop, List.length_take]; rfl)) ?_; (with_reducible refine (insn_Decode.calls k (fun k_ => some k_ = (.slice Ao31 y130.length co31 : Value).ownBlock) _ _ y130 t133 t136 _ ?side1 A1.out).mono ?_); (case side1 => exact Kd.R_V (Kd.R_tight rfl (HO132.out))); rintro e w32 ⟨v134, rfl, ho0, hb⟩; refine ⟨_, rfl, ?_⟩; have n0_ := Aside0.mk (Kd.R_below (by (with_reducible repeat (first | apply Kd.R_alloc | apply Kd.R_drewN | apply Kd.R_drew)); exact HO132.out) hb); have n1_ := Aside0.mk (Kd.R_lower (Kd.R_mono (ok' := fun k_ => True) ho0 (fun _ hk_ => trivial)) (below_size (by repeat (first | (with_reducible first | exact HB.out | apply below_alloc | apply pw_below_drewN | apply below_drew1) | exact HB.out)))); have n2_ := Aside0.mk (below_step (by repeat (first | (with_reducible first | exact HB.out | apply below_alloc | apply pw_below_drewN | apply below_drew1) | exact HB.out)) hb); clear HO132; clear HB; have HO132 := n0_; have HO135 := n1_; have HB := n2_; clear n0_ n1_ n2_; (try clear hb); (try clear hb2); (try clear hk); (try clear hi); (try clear ho0)))
    go_ret
    exact ⟨by first | rfl | (simp [errW_none, errW_some] <;> rfl) | (simp [*, errW_none, errW_some] <;> rfl), by repeat (first | (with_reducible first | exact HB.out | apply below_alloc | apply pw_below_drewN | apply below_drew1) | exact HB.out)⟩

/-! ### insn_Kind: function 20 -/
def insn_Kind.f (a0 : Int) : Option (Int) := some (wrap64 (Go.bits .and .u8 a0 240))
set_option maxHeartbeats 8000000 in
set_option maxRecDepth 100000 in
theorem insn_Kind.calls (a0 : Int) (r : Int) (w : World) (h : insn_Kind.f a0 = some r) :
    Calls Try.prog 20 #[.int .u8 a0] w fun e w' => e = .returned (.int .i64 r) ∧ Drawn0 w w' := by
  have H : (some (wrap64 (Go.bits .and .u8 a0 240))) = some r := h
  clear h
  obtain rfl := Option.some.inj H
  go_enter Try.func20, Try.ntmps20
  go_wp2
  go_ret
  exact ⟨by first | rfl | (simp; done) | (simp [*]; done), by repeat (first | exact Drawn0.refl _ | apply Drawn0.step)⟩

end Go.Proofs.Ytiekhgllnpgjcaa.PInsnPlain
