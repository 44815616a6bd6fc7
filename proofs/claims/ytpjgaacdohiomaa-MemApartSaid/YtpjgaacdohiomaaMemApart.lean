/- mem: regions side by side are apart: the law's function, walked by hand. -/
import Derived.Test.YtpjgaacdohiomaaMemF
import Derived.Test.YtpjgaacdohiomaaMemJ
namespace Go.Proofs.Ytpjgaacdohiomaa.MemApart
open Go.RowKit Go.Proofs.Ytpjgaacdohiomaa.PMemCopies Go.Proofs.YtpjgaacdohiomaaW.PrintWords Go.Proofs.YtpjgaacdohiomaaW.PrintLast Go.Proofs.YtpjgaacdohiomaaW.PrintMore Go.Proofs.Ytpjgaacdohiomaa.Mw Go.Proofs.Ytpjgaacdohiomaa.Mem1 Go.Proofs.Ytpjgaacdohiomaa.Mem3 Go.Proofs.Ytpjgaacdohiomaa.Mem4 Go.Proofs.Ytpjgaacdohiomaa.Mem5 Go.Proofs.Ytpjgaacdohiomaa.MemB Go.Proofs.Ytpjgaacdohiomaa.MemC Go.Proofs.Ytpjgaacdohiomaa.MemE Go.Proofs.Ytpjgaacdohiomaa.MemQ Go.Proofs.Ytpjgaacdohiomaa.MemF Go.Proofs.Ytpjgaacdohiomaa.MemK Go.Proofs.Ytpjgaacdohiomaa.MemJ
set_option linter.unusedVariables false
set_option linter.unusedSimpArgs false
theorem tn (x : Int) (m : Nat) (hm : 0 < m ∧ m < 1000) : ∃ k : Nat, k < m ∧ wrap64 ((IntKind.u64.wrap x).tmod (m : Int)) = (k : Int) := by
  rw [IntKind.wrap_u64]
  have h0 : 0 ≤ x % 18446744073709551616 := Int.emod_nonneg _ (by decide)
  rw [Int.tmod_eq_emod_of_nonneg h0]
  have h1 := Int.emod_nonneg (x % 18446744073709551616) (show (m : Int) ≠ 0 by omega)
  have h2 := Int.emod_lt_of_pos (x % 18446744073709551616) (show (0 : Int) < m by omega)
  generalize x % 18446744073709551616 % m = y at *
  exact ⟨y.toNat, by omega, by unfold wrap64; omega⟩
theorem and48 {v : Int} (hv : 0 ≤ v ∧ v < 18446744073709551616) : ∃ b : Int, Go.bits .and .u64 v 281474976710655 = b ∧ 0 ≤ b ∧ b < 281474976710656 := by
  obtain ⟨x, rfl⟩ := Int.eq_ofNat_of_zero_le hv.1
  have h := Num.and_nat (a := x) (b := 281474976710655) (by omega) (by omega)
  have h2 := Nat.and_two_pow_sub_one_eq_mod x 48
  refine ⟨_, rfl, ?_, ?_⟩
  · rw [show (281474976710655 : Int) = ((281474976710655 : Nat) : Int) from rfl, h]; exact Int.natCast_nonneg _
  · rw [show (281474976710655 : Int) = ((281474976710655 : Nat) : Int) from rfl, h, show (281474976710655 : Nat) = 2 ^ 48 - 1 by decide, h2]
    have := Nat.mod_lt x (show 0 < 2 ^ 48 by decide)
    omega
theorem nums (b X : Int) (x x0 : Nat) (hb : 0 ≤ b ∧ b < 281474976710656) (hx : x0 < 16) (hxx : x = x0 + 1) (hX : X = (x : Int)) : wrap64 (1 + (x0 : Int)) = X ∧ IntKind.u64.wrap X = X ∧ IntKind.u64.wrap (b + X) = b + X ∧ IntKind.u64.wrap (b + X - 1) = b + X - 1 := by
  subst hX hxx
  refine ⟨?_, ?_, ?_, ?_⟩
  · unfold wrap64; omega
  · rw [IntKind.wrap_u64]; omega
  · rw [IntKind.wrap_u64]; omega
  · rw [IntKind.wrap_u64]; omega
theorem read_cond {er P : Int} (hP : 0 ≤ P ∧ P ≤ 7) (h : er = 10 ↔ P % 2 = 0) : (er == 10) = (Go.bits .and .i64 P 1 == 0) := by
  rw [perm_one P hP]
  by_cases h2 : P % 2 = 0
  · rw [h.2 h2, h2]; rfl
  · have h1 : er ≠ 10 := fun h3 => h2 (h.1 h3)
    rw [beq_eq_false_iff_ne.2 h1, beq_eq_false_iff_ne.2 h2]
theorem bs12 : Bs [1, 2] := by
  intro x hx
  rcases List.mem_cons.1 hx with h | h
  · omega
  · have := List.mem_singleton.1 h; omega
theorem bs7 : Bs [7] := by
  intro x hx
  have := List.mem_singleton.1 hx
  omega
theorem row_alloc (w : World) (cs : Array Value) (vs : List Value) (e : cs.toList = vs) : Row (w.alloc (.cells cs 5)) w.heap.size 5 vs := Row.of (cs := cs) (by show (w.heap.push _)[w.heap.size]? = _; exact Array.getElem?_push_size) e
theorem write_cond {er P : Int} (hP : 0 ≤ P ∧ P ≤ 7) (h : er = 0 ↔ P / 2 % 2 ≠ 0) : (er == 0) = (Go.bits .and .i64 P 2 != 0) := by
  obtain ⟨h1, h2⟩ := perm_two P hP
  by_cases h3 : P / 2 % 2 = 0
  · rw [h1 h3, beq_eq_false_iff_ne.2 (fun h4 => (h.1 h4) h3)]; rfl
  · rw [h2 h3, h.2 h3]; rfl
set_option maxRecDepth 100000 in
set_option maxHeartbeats 8000000 in
theorem law_calls (v s0 s1 p0 p1 : Int) (w : World) (hv : 0 ≤ v ∧ v < 18446744073709551616) :
    Calls Try.prog 5 #[.int .u64 v, .agg #[.int .i64 s0, .int .i64 s1], .agg #[.int .i64 p0, .int .i64 p1]] w fun e w' => e = .returned (.bool true) ∧ Below w.heap.size w w' := by
  obtain ⟨x0, hx0, ex⟩ := tn s0 16 (by omega)
  obtain ⟨y0, hy0, ey⟩ := tn s1 16 (by omega)
  obtain ⟨pn, hp, ep⟩ := tn p0 8 (by omega)
  obtain ⟨qn, hq, eq⟩ := tn p1 8 (by omega)
  obtain ⟨b, hb, b0, b1⟩ := and48 hv
  have ex : wrap64 ((IntKind.u64.wrap s0).tmod 16) = (x0 : Int) := ex
  have ey : wrap64 ((IntKind.u64.wrap s1).tmod 16) = (y0 : Int) := ey
  have ep : wrap64 ((IntKind.u64.wrap p0).tmod 8) = (pn : Int) := ep
  have eq : wrap64 ((IntKind.u64.wrap p1).tmod 8) = (qn : Int) := eq
  obtain ⟨x, hx⟩ : ∃ x, x = x0 + 1 := ⟨_, rfl⟩
  obtain ⟨y, hy⟩ : ∃ y, y = y0 + 1 := ⟨_, rfl⟩
  obtain ⟨X, hX⟩ : ∃ X : Int, X = (x : Int) := ⟨_, rfl⟩
  obtain ⟨Y, hY⟩ : ∃ Y : Int, Y = (y : Int) := ⟨_, rfl⟩
  obtain ⟨n1, n2, n3, n4⟩ := nums b X x x0 ⟨b0, b1⟩ hx0 hx hX
  obtain ⟨n5, n6, -, -⟩ := nums b Y y y0 ⟨b0, b1⟩ hy0 hy hY
  obtain ⟨X0, hX0⟩ : ∃ X0 : Int, X0 = (x0 : Int) := ⟨_, rfl⟩
  obtain ⟨Y0, hY0⟩ : ∃ Y0 : Int, Y0 = (y0 : Int) := ⟨_, rfl⟩
  obtain ⟨P, hP⟩ : ∃ P : Int, P = (pn : Int) := ⟨_, rfl⟩
  obtain ⟨Q, hQ⟩ : ∃ Q : Int, Q = (qn : Int) := ⟨_, rfl⟩
  rw [← hX0] at ex n1
  rw [← hY0] at ey n5
  rw [← hP] at ep
  rw [← hQ] at eq
  have HN : Hid ((0 < x ∧ x ≤ 16) ∧ (0 < y ∧ y ≤ 16) ∧ (0 ≤ P ∧ P ≤ 7) ∧ (0 ≤ Q ∧ Q ≤ 7) ∧ X = (x : Int) ∧ Y = (y : Int)) := Lib.hid ⟨by omega, by omega, by omega, by omega, hX, hY⟩
  have HBB := Lib.hid (And.intro b0 b1)
  clear hx0 hy0 hp hq hx hy hX hY hX0 hY0 hP hQ hv
  go_enter Try.func5, Try.ntmps5
  go_wp2_with fail
  refine (first_calls _).mono ?_
  rintro e w1 ⟨rfl, hB⟩
  have c1 : w1.cell? ⟨w.heap.size, 0, none⟩ = some (.int .i64 s0) := by
    rw [hB.cell (by simp; omega), World.cell?_alloc_old _ _ _ (by simp), World.cell?_alloc_new]; rfl
  have c2 : w1.cell? ⟨w.heap.size, 1, none⟩ = some (.int .i64 s1) := by
    rw [hB.cell (by simp; omega), World.cell?_alloc_old _ _ _ (by simp), World.cell?_alloc_new]; rfl
  have c3 : w1.cell? ⟨w.heap.size + 1, 0, none⟩ = some (.int .i64 p0) := by
    rw [hB.cell (by simp)]
    simp
  have c4 : w1.cell? ⟨w.heap.size + 1, 1, none⟩ = some (.int .i64 p1) := by
    rw [hB.cell (by simp)]
    simp
  have HB := Lib.hid (show Below w.heap.size w w1 from (below_alloc (below_alloc (Below.refl _ _) _) _).trans (hB.mono (by simp; omega)))
  clear hB
  go_wp2
  go_quiet (fail)
  go_wp2
  go_quiet (fail)
  simp only [n1, n5, ep, eq]
  go_wp2_with fail
  refine (q_new _).mono ?_
  rintro e w2 ⟨F, g, rfl, hM, hF, hB⟩
  have HB2 := Lib.hid ((pw_below_drewN HB.out _).trans (hB.mono (pw_below_drewN HB.out _).size))
  have HF := Lib.hid (fun b hb => Nat.le_trans HB.out.size (hF b hb))
  have hA := q_add hM (by omega) b X P (by have := HBB.out; omega) (by have := HN.out; omega)
  have ha1 := add_one (b := b) (p := P) HN.out.1 HBB.out HN.out.2.2.1
  rw [← HN.out.2.2.2.2.1] at ha1
  rw [ha1] at hA
  simp only at hA
  have HA := Lib.hid hA
  clear hM hF hB hA ha1 HB c1 c2 c3 c4
  go_wp2_with fail
  refine HA.out.mono ?_
  rintro e w3 ⟨rfl, F2, hM, hS⟩
  have HF2 := Lib.hid (hS.low HB2.out.size HF.out)
  have HB3 := Lib.hid (hS.below HB2.out HF.out)
  have hA := q_add hM (by omega) (b + X) Y Q (by have := HBB.out; have := HN.out; omega) (by have := HN.out; omega)
  have ha1 := add_two (b := b) (p := P) HN.out.1 HN.out.2.1 HBB.out HN.out.2.2.2.1
  rw [← HN.out.2.2.2.2.1, ← HN.out.2.2.2.2.2] at ha1
  rw [ha1] at hA
  simp only at hA
  have HA2 := Lib.hid hA
  clear hM hS hA ha1 HB2 HF HA
  go_wp2_with fail
  refine HA2.out.mono ?_
  rintro e w4 ⟨rfl, F3, hM, hS⟩
  have HF3 := Lib.hid (hS.low HB3.out.size HF2.out)
  have HB4 := Lib.hid (hS.below HB3.out HF2.out)
  have HM4 : Hid (∃ r s, Two b x y P Q r s ∧ MQ w4 F3 g [r, s] 2) := Lib.hid ⟨_, _, by rw [HN.out.2.2.2.2.1]; exact two_new, hM⟩
  clear hM hS HB3 HF2 HA2
  obtain ⟨r, s, hT, hM⟩ := HM4.out
  have HT := Lib.hid hT
  have HM := Lib.hid hM
  have HC := Lib.hid (q_count hM)
  clear hT hM HM4
  go_wp2_with fail
  refine HC.out.mono ?_
  rintro e w5 ⟨rfl, rfl⟩
  have hR := q_read HM.out (b + X - 1) 2 (by have := HBB.out; have := HN.out; omega)
  have hr := read_border HT.out HN.out.1.1
  rw [← HN.out.2.2.2.2.1] at hr
  rw [hr] at hR
  simp only at hR
  have HR := Lib.hid hR
  clear hR hr HC
  go_wp2_with fail
  refine HR.out.mono ?_
  rintro e w5 ⟨v5, rfl, -, hB5⟩
  have HM5 := Lib.hid (HM.out.below hB5)
  have HB5 := Lib.hid (HB4.out.trans (hB5.mono HB4.out.size))
  clear hB5 HR HM HB4
  go_wp2_with fail
  obtain ⟨er1, he1⟩ : ∃ e, (readQ [r, s] b 1).1 = e := ⟨_, rfl⟩
  have hw := read_first HT.out HN.out.1.1
  have hR := q_read HM5.out b 1 (by have := HBB.out; omega)
  rw [he1] at hR hw
  have HE1 := Lib.hid hw
  have HR := Lib.hid hR
  clear hR hw he1
  refine HR.out.mono ?_
  rintro e w6 ⟨v6, rfl, -, hB6⟩
  have HM6 := Lib.hid (HM5.out.below hB6)
  have HB6 := Lib.hid (HB5.out.trans (hB6.mono HB5.out.size))
  clear hB6 HR HM5 HB5
  go_wp2_with fail
  obtain ⟨er2, he2⟩ : ∃ e, (readQ [r, s] (b + X) 1).1 = e := ⟨_, rfl⟩
  have hw := read_second HT.out HN.out.2.1.1
  have hR := q_read HM6.out (b + X) 1 (by have := HBB.out; have := HN.out; omega)
  rw [← HN.out.2.2.2.2.1] at hw
  rw [he2] at hR hw
  have HE2 := Lib.hid hw
  have HR := Lib.hid hR
  clear hR hw he2
  refine HR.out.mono ?_
  rintro e w7 ⟨v7, rfl, -, hB7⟩
  have HM7 := Lib.hid (HM6.out.below hB7)
  have HB7 := Lib.hid (HB6.out.trans (hB7.mono HB6.out.size))
  clear hB7 HR HM6 HB6
  have E1 := Lib.hid (read_cond HN.out.2.2.1 HE1.out)
  have E2 := Lib.hid (read_cond HN.out.2.2.2.1 HE2.out)
  go_wp2_with fail
  all_goals first | (exfalso; rename_i h; exact h E1.out) | (exfalso; rename_i h; exact h E2.out) | (exfalso; rename_i h; rw [E1.out] at h; revert h; cases (Go.bits .and .i64 P 1 == 0) <;> decide) | (exfalso; rename_i h; rw [E2.out] at h; revert h; cases (Go.bits .and .i64 Q 1 == 0) <;> decide) | skip
  clear E1 E2 HE1 HE2
  · have hM := HM7.out.below (below_alloc (Below.refl w7.heap.size w7) (.cells #[.int .u8 1, .int .u8 2] 5))
    have hB := below_alloc HB7.out (.cells #[.int .u8 1, .int .u8 2] 5)
    have hr : Row (w7.alloc (.cells #[.int .u8 1, .int .u8 2] 5)) w7.heap.size 5 (([1, 2] : List Int).map (Value.int .u8)) := row_alloc _ _ _ rfl
    have hW := q_write hM (b + X - 1) (by have := HBB.out; have := HN.out; omega) (some ⟨w7.heap.size, 0, none⟩) [1, 2] 2 (rowC hr (by show 2 ≤ 9223372036854775807; omega)) (Nat.le_refl 2) bs12
    have hw := write_border HT.out HN.out.1.1
    rw [← HN.out.2.2.2.2.1] at hw
    rw [hw] at hW
    have HW := Lib.hid hW
    have HBa := Lib.hid hB
    clear hM hr hW hw hB HM7 HB7
    refine HW.out.mono ?_
    rintro e w8 ⟨rfl, hM, hS⟩
    have HM8 := Lib.hid hM
    have HB8 := Lib.hid (hS.below HBa.out HF3.out)
    clear hM hS HW HBa
    go_wp2_with fail
    have hM := HM8.out.below (below_alloc (Below.refl w8.heap.size w8) (.cells #[.int .u8 7] 5))
    have hB := below_alloc HB8.out (.cells #[.int .u8 7] 5)
    have hr : Row (w8.alloc (.cells #[.int .u8 7] 5)) w8.heap.size 5 (([7] : List Int).map (Value.int .u8)) := row_alloc _ _ _ rfl
    have hW := q_write hM b (by have := HBB.out; omega) (some ⟨w8.heap.size, 0, none⟩) [7] 1 (rowC hr (by show 1 ≤ 9223372036854775807; omega)) (Nat.le_refl 1) bs7
    obtain ⟨hw, r', hr', hT'⟩ := write_first HT.out HN.out.1.1
    obtain ⟨er3, he3⟩ : ∃ e, (writeQ [r, s] b [7]).1 = e := ⟨_, rfl⟩
    rw [he3] at hW hw
    rw [hr'] at hW
    have HE3 := Lib.hid (write_cond HN.out.2.2.1 hw)
    have HT2 := Lib.hid hT'
    have HW := Lib.hid hW
    have HBa := Lib.hid hB
    clear hM hr hW hw hB HM8 HB8 hr' hT' he3
    refine HW.out.mono ?_
    rintro e w9 ⟨rfl, hM, hS⟩
    have HM9 := Lib.hid hM
    have HB9 := Lib.hid (hS.below HBa.out HF3.out)
    clear hM hS HW HBa
    go_wp2_with fail
    all_goals first | (exfalso; rename_i h; exact h HE3.out) | (exfalso; rename_i h; rw [HE3.out] at h; revert h; cases (Go.bits .and .i64 P 2 != 0) <;> decide) | skip
    clear HE3
    have hA := q_add HM9.out (by omega) (b + X - 1) 1 1 (by have := HBB.out; have := HN.out; omega) (by omega)
    have ha1 := add_busy HT2.out HN.out.1.1 HBB.out.1 (by have := HBB.out; have := HN.out; omega) 2
    rw [← HN.out.2.2.2.2.1] at ha1
    rw [ha1] at hA
    simp only at hA
    have HA := Lib.hid hA
    clear hA ha1 HM9
    refine HA.out.mono ?_
    rintro e w10 ⟨rfl, F4, hM, hS⟩
    have HF4 := Lib.hid (hS.low HB9.out.size HF3.out)
    have HB10 := Lib.hid (hS.below HB9.out HF3.out)
    have HM10 := Lib.hid hM
    clear hM hS HA HF3 HB9
    go_wp2_with fail
    have hK := q_kill HM10.out 0
    rw [(kill_first HT2.out).1] at hK
    have HK := Lib.hid hK
    clear hK HM10
    refine HK.out.mono ?_
    rintro e w11 ⟨rfl, F5, hM, hS⟩
    have HF5 := Lib.hid (hS.low HB10.out.size HF4.out)
    have HB11 := Lib.hid (hS.below HB10.out HF4.out)
    have HM11 := Lib.hid hM
    clear hM hS HK HF4 HB10
    go_wp2_with fail
    have hK := q_kill HM11.out 0
    rw [(kill_first HT2.out).2.1] at hK
    have HK := Lib.hid hK
    clear hK HM11
    refine HK.out.mono ?_
    rintro e w12 ⟨rfl, F6, hM, hS⟩
    have HF6 := Lib.hid (hS.low HB11.out.size HF5.out)
    have HB12 := Lib.hid (hS.below HB11.out HF5.out)
    have HM12 := Lib.hid hM
    clear hM hS HK HF5 HB11
    go_wp2_with fail
    have HC := Lib.hid (q_live HM12.out 1)
    rw [(kill_first HT2.out).2.2] at HC
    refine HC.out.mono ?_
    rintro e w13 ⟨rfl, rfl⟩
    go_wp2_with fail
    go_ret
    exact ⟨rfl, HB12.out⟩
end Go.Proofs.Ytpjgaacdohiomaa.MemApart
