/- array: what must be answered ahead of everything else, walked by hand. -/
import Derived.Test.YtndgpadeiljlnaaPArrayAllx
import Derived.Test.YtndgpadeiljlnaaArr
import Derived.Lib.Hide
import Derived.Test.YtndgpadeiljlnaaLeNumArrayAll
import Derived.Outline
namespace Go.Proofs.Ytndgpadeiljlnaa.ArrAll
open Go.RowKit Go.Proofs.Ytndgpadeiljlnaa.PArrayAll Go.Proofs.YtndgpadeiljlnaaW.PrintWords Go.Proofs.YtndgpadeiljlnaaW.PrintLast Go.Proofs.YtndgpadeiljlnaaW.PrintMore Go.Proofs.Ytndgpadeiljlnaa.Arr Go.Proofs.Ytndgpadeiljlnaa.LeNumArrayAll
set_option linter.unusedVariables false

/-- Four bytes that the call laid. -/
theorem lit4 {w : World} {g : Nat} {a b c d : Int} (h : w.heap[g]? = some (.cells #[.int .u8 a, .int .u8 b, .int .u8 c, .int .u8 d] 5 (0, 0))) : Kd.C (Kd.int .u8) w (some ⟨g, 0, none⟩) 4 [a, b, c, d] := by
  refine Kd.C_of_reads (d := (0 : Int)) (h1 := fun _ => rfl) ⟨rfl, by omega, fun _ => ⟨_, rfl, fun j hj => ?_⟩⟩
  have hc := fun i => blk_cell h i
  rcases (show j = 0 ∨ j = 1 ∨ j = 2 ∨ j = 3 by omega) with rfl | rfl | rfl | rfl
  · exact (hc 0).trans rfl
  · exact (hc 1).trans rfl
  · exact (hc 2).trans rfl
  · exact (hc 3).trans rfl

theorem New_own (w0 w : World) (m : Int) (h1 : 1 ≤ m) (h2 : m ≤ 64) (hB : Below w0.heap.size w0 w) :
    Calls Try.prog 10 #[.int .i64 m] w fun e w' => ∃ g, e = .returned (.tuple #[.pointer (some ⟨g, 0, none⟩), .int .i64 0]) ∧ IsS64 w0 w' g m ∧ Below w0.heap.size w0 w' ∧ Below w.heap.size w w' :=
  (New_ok m w h1 h2).mono fun e w' ⟨he, hw⟩ => ⟨_, he, ⟨by rw [hw]; exact heap_alloc_new w _, hB.size⟩, by rw [hw]; exact hB.alloc hB.size _, by rw [hw]; exact (Below.refl _ _).alloc (Nat.le_refl _) _⟩
theorem s_alloc {w0 w : World} {g : Nat} {m : Int} (h : IsS64 w0 w g m) (o : Obj) : IsS64 w0 (w.alloc o) g m := ⟨blk_alloc h.1 o, h.2⟩

theorem first_calls (w : World) : Calls Try.prog 9 #[] w fun e w' => e = .returned (.bool true) ∧ Below w.heap.size w w' := by
  have F1 : Hid (array_Index_Find.f 20 3 [2, 0, 0, 0] = some (2, true, 3)) := Lib.hid (by decide +kernel)
  have F2 : Hid (array_Index_Find.f 20 3 [3, 0, 0, 0] = some (0, false, 3)) := Lib.hid (by decide +kernel)
  go_enter Try.func9, Try.ntmps9
  go_wp2_with fail
  refine (New_own w w 3 (by omega) (by omega) (Below.refl _ _)).mono ?_
  rintro e w1 ⟨g, rfl, hI, hB, hb⟩
  have HI := Lib.hid hI; have HB := Lib.hid hB
  clear hI hB hb
  go_wp2_with fail
  refine (array_Index_Find.calls 20 g 3 (some ⟨w1.heap.size, 0, none⟩) 4 [2, 0, 0, 0] 2 true 3 w _ (s_alloc HI.out _) (HB.out.alloc HB.out.size _) (lit4 (heap_alloc_new w1 _)) (by decide) (fun ad e _ => by cases e; exact Nat.ne_of_gt (blk_lt HI.out.1)) F1.out).mono ?_
  rintro e w2 ⟨rfl, hI2, hB2, _⟩
  have HI2 := Lib.hid hI2; have HB2 := Lib.hid hB2
  clear hI2 hB2
  go_wp2_with fail
  refine (array_Index_Find.calls 20 g 3 (some ⟨w2.heap.size, 0, none⟩) 4 [3, 0, 0, 0] 0 false 3 w _ (s_alloc HI2.out _) (HB2.out.alloc HB2.out.size _) (lit4 (heap_alloc_new w2 _)) (by decide) (fun ad e _ => by cases e; exact Nat.ne_of_gt (blk_lt HI2.out.1)) F2.out).mono ?_
  rintro e w3 ⟨rfl, hI3, hB3, _⟩
  have HB3 := Lib.hid hB3
  clear hI3 hB3
  go_wp2
  go_ret
  exact ⟨rfl, HB3.out⟩

/-! ### The law -/
abbrev kOp : Kd (Int × List Int × Int) := Kd.pair (Kd.int .i64) (Kd.pair (Kd.slice 5 (Kd.int .u8)) (Kd.int .u64))
/-- An element of the script: its three cells. -/
theorem op_at {w : World} {A : Option Addr} {n : Nat} {xs : List (Int × List Int × Int)} (h : Kd.C kOp w A n xs) (i : Nat) (hi : i < n) :
    ∃ ad a l f A1 c1, A = some ad ∧ w.cell? (ad.add (i * 3)) = some (.int .i64 a) ∧ w.cell? ⟨(ad.add (i * 3)).block, (ad.add (i * 3)).off + 1, none⟩ = some (.slice A1 l.length c1) ∧ w.cell? ⟨(ad.add (i * 3)).block, (ad.add (i * 3)).off + 2, none⟩ = some (.int .u64 f) ∧ l.length ≤ c1 ∧ Kd.C (Kd.int .u8) w A1 l.length l ∧ (a, l, f) ∈ xs := by
  obtain ⟨ad, c, e, _, hK, hc⟩ := Kd.C_get h ((0, [], 0) : Int × List Int × Int) (i : Int) (by omega) (by omega)
  have hm : xs.getD (i : Int).toNat (0, [], 0) ∈ xs := by
    have hl : i < xs.length := by have := Kd.C_len h; omega
    rw [Int.toNat_natCast, List.getD_eq_getElem?_getD, List.getElem?_eq_getElem hl]
    exact List.getElem_mem hl
  generalize xs.getD (i : Int).toNat (0, [], 0) = p at *
  obtain ⟨a, l, f⟩ := p
  obtain ⟨k0, k1, rfl, h0, k10, k11, rfl, ⟨A1, c1, rfl, hl, hC⟩, h2⟩ := hK
  have h0 : k0 = [.int .i64 a] := h0
  have h2 : k11 = [.int .u64 f] := h2
  subst h0; subst h2
  have hc : ∀ j u, ([Value.int .i64 a] ++ ([Value.slice A1 l.length c1] ++ [Value.int .u64 f]))[j]? = some u → w.cell? (ad.add (i * 3 + j)) = some u := hc
  exact ⟨ad, a, l, f, A1, c1, e, hc 0 _ rfl, by rw [← add_field _ _ 1 (by omega)]; exact hc 1 _ rfl, by rw [← add_field _ _ 2 (by omega)]; exact hc 2 _ rfl, hl, hC, hm⟩
/-- What was there at the beginning is there. -/
theorem old {w w' : World} (hb : Below w.heap.size w w') {p : Addr} {v : Value} (h : w.cell? p = some v) : w'.cell? p = some v := (hb.cell (World.block_lt_of_cell? w p h)).trans h
/-- A key that came in lies below what the call made. -/
theorem apart {w : World} {A : Option Addr} {l : List Int} {g : Nat} (h : Kd.C (Kd.int .u8) w A l.length l) (hg : w.heap.size ≤ g) : ∀ ad, A = some ad → 0 < l.length → ad.block ≠ g := by
  intro ad e hl
  obtain ⟨ad', c, e', _, _, hc⟩ := Kd.C_get h (0 : Int) 0 (by omega) (by omega)
  have hK := hc
  rw [e] at e'
  cases e'
  have hb : ∃ u, w.cell? (ad.add 0) = some u := by
    rename_i hK1
    exact ⟨_, hc 0 _ (by rw [show c = [.int .u8 (l.getD (0 : Int).toNat 0)] from hK1]; rfl)⟩
  obtain ⟨u, hu⟩ := hb
  have := World.block_lt_of_cell? w _ hu
  rw [Addr.add_zero'] at this
  omega

/-- Put answers, whatever the key. -/
theorem Put_total (m : Int) (l : List Int) (hb : ∀ b ∈ l, Byte b) (f : Int) : ∃ r1 r2 r3, array_Index_Put.f 20 m l f = some (r1, r2, r3, m) := by
  have hF : ∃ a b, array_Index_Find.f 20 m l = some (a, b, m) := by
    unfold array_Index_Find.f
    by_cases h4 : (l.length : Int) = 4
    · rw [if_pos h4]
      obtain ⟨v, hv⟩ : ∃ v, le_Num.f 20 l = some v := by
        match l, h4 with
        | [a, b, c, d], _ => exact ⟨_, num4 20 (by omega) (hb a (by simp)) (hb b (by simp)) (hb c (by simp)) (hb d (by simp))⟩
      rw [hv, Option.bind_some]
      by_cases h : v ≥ IntKind.u64.wrap m
      · rw [if_pos h]; exact ⟨_, _, rfl⟩
      · rw [if_neg h]; exact ⟨_, _, rfl⟩
    · rw [if_neg h4]; exact ⟨_, _, rfl⟩
  obtain ⟨a, b, hF⟩ := hF
  unfold array_Index_Put.f
  rw [hF, Option.bind_some]
  by_cases h4 : (l.length : Int) = 4
  · rw [if_pos h4]
    by_cases h2 : f > 2
    · rw [if_pos h2]; exact ⟨_, _, _, rfl⟩
    · rw [if_neg h2]
      by_cases h5 : b = true
      · rw [if_pos h5]
        by_cases h6 : f = 1
        · rw [if_pos h6]; exact ⟨_, _, _, rfl⟩
        · rw [if_neg h6]; exact ⟨_, _, _, rfl⟩
      · rw [if_neg h5]; exact ⟨_, _, _, rfl⟩
  · rw [if_neg h4]; exact ⟨_, _, _, rfl⟩

theorem Find_n (m n : Int) (h1 : 1 ≤ m) (h2 : m ≤ 64) (hn0 : 0 ≤ n) (hn1 : n < 4294967296) :
    array_Index_Find.f 20 m [n % 256, n / 256 % 256, n / 65536 % 256, n / 16777216] = some (if n < m then n else 0, decide (n < m), m) := by
  unfold array_Index_Find.f
  rw [if_pos (show ((List.length [n % 256, n / 256 % 256, n / 65536 % 256, n / 16777216] : Nat) : Int) = 4 from rfl), num4 20 (by omega) ⟨by omega, by omega⟩ ⟨by omega, by omega⟩ ⟨by omega, by omega⟩ ⟨by omega, by omega⟩, Option.bind_some, show n % 256 + 256 * (n / 256 % 256) + 65536 * (n / 65536 % 256) + 16777216 * (n / 16777216) = n by omega, IntKind.wrap_u64, show m % 18446744073709551616 = m by omega]
  by_cases h : n < m
  · rw [if_neg (by omega), if_pos h, decide_eq_true h, show wrap64 n = n by unfold wrap64; omega]
  · rw [if_pos (by omega), if_neg h, decide_eq_false h]
theorem put_step (k : Nat) (x : List Int) (v : Int) (i : Nat) (hi : i < 4) (hx : x.length < 100) :
    le_Put.l0 (k + 1) x v 4 (i : Int) = le_Put.l0 k (x ++ [(shr .u64 v (IntKind.u64.wrap (wrap64 (8 * (i : Int))))) % 256]) v 4 ((i + 1 : Nat) : Int) := by
  rw [le_Put.l0, if_pos (by omega), if_pos (by rw [IntKind.wrap_u64]; omega), if_pos (by omega), show wrap64 ((i : Int) + 1) = ((i + 1 : Nat) : Int) by unfold wrap64; omega]
theorem put_ex (v : Int) (k : Nat) : ∀ (d i : Nat) (x : List Int), i + d = 4 → x.length ≤ i → ∃ l, le_Put.l0 (k + d + 1) x v 4 (i : Int) = some l := by
  intro d
  induction d with
  | zero => intro i x hi hx; exact ⟨x, by rw [le_Put.l0, if_neg (by omega)]⟩
  | succ d ih =>
    intro i x hi hx
    obtain ⟨l, hl⟩ := ih (i + 1) (x ++ [(shr .u64 v (IntKind.u64.wrap (wrap64 (8 * (i : Int))))) % 256]) (by omega) (by simp; omega)
    exact ⟨l, by rw [show k + (d + 1) + 1 = (k + d + 1) + 1 by omega, put_step _ x v i (by omega) (by omega), hl]⟩
theorem Put_bytes (k : Nat) (v : Int) : ∃ l, le_Put.f (k + 5) [] v 4 = some l := put_ex v k 4 0 [] (by omega) (by simp)
theorem keys_loop (m : Nat) (hm : m ≤ 64) (x : Int) : ∀ (d i : Nat) (acc : List (List Int)), i + d = m → acc.length = i → ∃ rows, array_Index_Keys.l0 (d + 10) acc (m : Int) (i : Int) x = some (rows, x) ∧ rows.length = m := by
  intro d
  induction d with
  | zero =>
    intro i acc hi ha
    exact ⟨acc, by rw [array_Index_Keys.l0, if_neg (by omega)], by omega⟩
  | succ d ih =>
    intro i acc hi ha
    obtain ⟨l, hl⟩ := Put_bytes (d + 5) (IntKind.u64.wrap (i : Int))
    obtain ⟨rows, e, hr⟩ := ih (i + 1) (acc ++ [l]) (by omega) (by simp [ha])
    refine ⟨rows, ?_, hr⟩
    rw [show d + 1 + 10 = (d + 10) + 1 by omega, array_Index_Keys.l0, if_pos (by omega), hl, Option.bind_some, if_pos (by omega), show wrap64 ((i : Int) + 1) = ((i + 1 : Nat) : Int) by unfold wrap64; omega, e]
theorem Keys_total (m : Int) (h1 : 1 ≤ m) (h2 : m ≤ 64) : ∃ rows, array_Index_Keys.f (m.toNat + 10) m = some (rows, m) ∧ rows.length = m.toNat := by
  obtain ⟨k, rfl⟩ := Int.eq_ofNat_of_zero_le (show 0 ≤ m by omega)
  exact keys_loop k (by omega) (k : Int) k 0 [] (by omega) rfl

attribute [local go_sem] max2_int min2_int max_two min_two max_three min_three max_four min_four
theorem law_bad (m n : Int) (A : Option Addr) (l c : Nat) (w : World) (h : m < 1 ∨ m > 64) :
    Calls Try.prog 4 #[.int .i64 m, .slice A l c, .int .u32 n] w fun e w' => e = .returned (.bool true) ∧ Below w.heap.size w w' := by
  by_cases h1 : m < 1
  · go_enter Try.func4, Try.ntmps4
    go_wp2_with fail
    refine (first_calls w).mono ?_
    rintro e w1 ⟨rfl, hB⟩
    have HB := Lib.hid hB
    clear hB
    go_wp2_with fail
    refine (New_bad m _ h).mono ?_
    rintro e w2 ⟨rfl, rfl⟩
    go_wp2
    go_ret
    exact ⟨rfl, HB.out⟩
  · have h2 : m > 64 := by omega
    go_enter Try.func4, Try.ntmps4
    go_wp2_with fail
    refine (first_calls w).mono ?_
    rintro e w1 ⟨rfl, hB⟩
    have HB := Lib.hid hB
    clear hB
    go_wp2_with fail
    refine (New_bad m _ h).mono ?_
    rintro e w2 ⟨rfl, rfl⟩
    go_wp2
    go_ret
    exact ⟨rfl, HB.out⟩
set_option maxRecDepth 100000 in
theorem law_few (m n : Int) (A : Option Addr) (xs : List (Int × List Int × Int)) (c : Nat) (w : World) (h1 : 1 ≤ m) (h2 : m ≤ 64) (hn0 : 0 ≤ n) (hn1 : n < 4294967296) (hx : Kd.C kOp w A xs.length xs) (hc : xs.length ≤ c) (hcm : c ≤ 9223372036854775807) (hfew : xs.length ≤ 30) (hxb : ∀ p ∈ xs, ∀ b ∈ p.2.1, Byte b) :
    Calls Try.prog 4 #[.int .i64 m, .slice A xs.length c, .int .u32 n] w fun e w' => e = .returned (.bool true) ∧ Below w.heap.size w w' := by
  have HX := Lib.hid hx
  clear hx
  obtain ⟨nn, hnn⟩ : ∃ nn : Nat, nn = xs.length := ⟨_, rfl⟩
  have HN := Lib.hid hnn
  rw [← hnn] at hc hfew HX ⊢
  clear hnn
  go_enter Try.func4, Try.ntmps4
  go_wp2_with fail
  refine (first_calls w).mono ?_
  rintro e w1 ⟨rfl, hB⟩
  have HB := Lib.hid hB
  clear hB
  go_wp2_with fail
  refine (New_own w w1 m h1 h2 HB.out).mono ?_
  rintro e w2 ⟨g, rfl, hI, hB2, hb2⟩
  have HI := Lib.hid hI; have HB2 := Lib.hid hB2
  clear hI hB2 hb2
  go_wp2
  go_loopw [38] (fun i wr => ∃ k : Nat, k ≤ nn ∧ i = .int .i64 (k : Int) ∧ Hid (IsS64 w wr g m) ∧ Hid (Below w.heap.size w wr)) (fun i _ => nn - (intOf i).toNat)
  case atStart => exact ⟨0, Nat.zero_le _, rfl, HI, HB2⟩
  case round =>
    clear HI HB2 HB
    obtain ⟨k, hk, rfl, HIr, HBr⟩ := hrel
    by_cases hlt : k < nn
    · obtain ⟨ad, a, l, f, A1, c1, rfl, g0, g1, g2, hl, hC, hm⟩ := op_at HX.out k (by omega)
      have HC := Lib.hid hC
      have HA := Lib.hid (apart hC HIr.out.2)
      have g0' := old HBr.out g0
      have g1' := old HBr.out g1
      have g2' := old HBr.out g2
      obtain ⟨r1, r2, r3, hP⟩ := Put_total m l (hxb _ hm) f
      have HP := Lib.hid hP
      clear hC hm g0 g1 g2 hP
      go_wp2_with fail
      have HB3 := Lib.hid (HBr.out.alloc HBr.out.size (.cells #[.int .i64 a, .slice A1 l.length c1, .int .u64 f] 35))
      refine (array_Index_Put.calls 20 g m A1 c1 l f r1 r2 r3 m w _ (s_alloc HIr.out _) HB3.out (Kd.C_below HC.out HB3.out) hl HA.out HP.out).mono ?_
      rintro e w4 ⟨rfl, hI4, hB4, hK4⟩
      have g3 : w4.cell? ⟨wr.heap.size, 1, none⟩ = some (.slice A1 l.length c1) := (blk_cell (hK4.blk (heap_alloc_new wr _) (Nat.ne_of_gt (blk_lt HIr.out.1)) (by simp)) 1).trans rfl
      have HI4 := Lib.hid hI4; have HB4 := Lib.hid hB4
      clear hI4 hB4 hK4
      go_wp2_with fail
      refine (array_Index_Del.calls g m A1 c1 l 0 2 m w _ HI4.out HB4.out (Kd.C_below HC.out HB4.out) hl HA.out rfl).mono ?_
      rintro e w5 ⟨rfl, hI5, hB5, hK5⟩
      have HI5 := Lib.hid hI5; have HB5 := Lib.hid hB5
      clear hI5 hB5 hK5
      go_wp2
      go_roundw
      case rel => exact ⟨k + 1, by omega, by go_num, HI5, HB5⟩
      case measure => simp [intOf]; omega
    · obtain ⟨rows, hK, hr⟩ := Keys_total m h1 h2
      have HK := Lib.hid hK
      have HR := Lib.hid hr
      have hF := Find_n m n h1 h2 hn0 hn1
      clear hK hr
      by_cases hnm : n < m
      · rw [if_pos hnm, decide_eq_true hnm] at hF
        have HF := Lib.hid hF
        have HNM := Lib.hid hnm
        clear hF hnm
        go_wp2_with fail
        refine (array_Index_Find.calls 20 g m (some ⟨wr.heap.size, 0, none⟩) 4 [n % 256, n / 256 % 256, n / 65536 % 256, n / 16777216] n true m w _ (s_alloc HIr.out _) (HBr.out.alloc HBr.out.size _) (lit4 (heap_alloc_new wr _)) (Nat.le_refl 4) (fun ad e _ => by cases e; exact Nat.ne_of_gt (blk_lt HIr.out.1)) HF.out).mono ?_
        rintro e w6 ⟨rfl, hI6, hB6, _⟩
        have HI6 := Lib.hid hI6; have HB6 := Lib.hid hB6
        clear hI6 hB6
        go_wp2_with fail
        refine (array_Index_Keys.calls (m.toNat + 10) g m rows m w _ HI6.out HB6.out HK.out).mono ?_
        rintro e w7 ⟨v, rfl, hS, hI7, hB7, _⟩
        obtain ⟨gk, ck, rfl, _⟩ := Kd.R_form (Kd.S_R hS) (by rw [HR.out]; omega)
        have HB7 := Lib.hid hB7
        clear hS hI7 hB7
        have e1 : ((rows.length : Int) == m) = true := by rw [HR.out, beq_iff_eq]; omega
        have e2 : decide (n < m) = true := decide_eq_true HNM.out
        go_wp2
        go_ret
        exact ⟨rfl, HB7.out⟩
      · rw [if_neg hnm, decide_eq_false hnm] at hF
        have HF := Lib.hid hF
        have HNM := Lib.hid hnm
        clear hF hnm
        go_wp2_with fail
        refine (array_Index_Find.calls 20 g m (some ⟨wr.heap.size, 0, none⟩) 4 [n % 256, n / 256 % 256, n / 65536 % 256, n / 16777216] 0 false m w _ (s_alloc HIr.out _) (HBr.out.alloc HBr.out.size _) (lit4 (heap_alloc_new wr _)) (Nat.le_refl 4) (fun ad e _ => by cases e; exact Nat.ne_of_gt (blk_lt HIr.out.1)) HF.out).mono ?_
        rintro e w6 ⟨rfl, hI6, hB6, _⟩
        have HI6 := Lib.hid hI6; have HB6 := Lib.hid hB6
        clear hI6 hB6
        go_wp2_with fail
        refine (array_Index_Keys.calls (m.toNat + 10) g m rows m w _ HI6.out HB6.out HK.out).mono ?_
        rintro e w7 ⟨v, rfl, hS, hI7, hB7, _⟩
        obtain ⟨gk, ck, rfl, _⟩ := Kd.R_form (Kd.S_R hS) (by rw [HR.out]; omega)
        have HB7 := Lib.hid hB7
        clear hS hI7 hB7
        have e1 : ((rows.length : Int) == m) = true := by rw [HR.out, beq_iff_eq]; omega
        have e2 : decide (n < m) = false := decide_eq_false (by have := HNM.out; omega)
        go_wp2
        go_ret
        exact ⟨rfl, HB7.out⟩
set_option maxRecDepth 100000 in
theorem law_many (m n : Int) (A : Option Addr) (xs : List (Int × List Int × Int)) (c : Nat) (w : World) (h1 : 1 ≤ m) (h2 : m ≤ 64) (hn0 : 0 ≤ n) (hn1 : n < 4294967296) (hx : Kd.C kOp w A xs.length xs) (hc : xs.length ≤ c) (hcm : c ≤ 9223372036854775807) (hmany : 30 < xs.length) (hxb : ∀ p ∈ xs, ∀ b ∈ p.2.1, Byte b) :
    Calls Try.prog 4 #[.int .i64 m, .slice A xs.length c, .int .u32 n] w fun e w' => e = .returned (.bool true) ∧ Below w.heap.size w w' := by
  have HX := Lib.hid hx
  clear hx
  obtain ⟨nn, hnn⟩ : ∃ nn : Nat, nn = xs.length := ⟨_, rfl⟩
  have HN := Lib.hid hnn
  rw [← hnn] at hc hmany HX ⊢
  clear hnn
  have hmx : max (30 : Int) 0 = 30 := by decide
  go_enter Try.func4, Try.ntmps4
  go_wp2_with fail
  refine (first_calls w).mono ?_
  rintro e w1 ⟨rfl, hB⟩
  have HB := Lib.hid hB
  clear hB
  go_wp2_with fail
  refine (New_own w w1 m h1 h2 HB.out).mono ?_
  rintro e w2 ⟨g, rfl, hI, hB2, hb2⟩
  have HI := Lib.hid hI; have HB2 := Lib.hid hB2
  clear hI hB2 hb2
  go_wp2
  go_loopw [38] (fun i wr => ∃ k : Nat, k ≤ 30 ∧ i = .int .i64 (k : Int) ∧ Hid (IsS64 w wr g m) ∧ Hid (Below w.heap.size w wr)) (fun i _ => 30 - (intOf i).toNat)
  case atStart => exact ⟨0, Nat.zero_le _, rfl, HI, HB2⟩
  case round =>
    clear HI HB2 HB
    obtain ⟨k, hk, rfl, HIr, HBr⟩ := hrel
    by_cases hlt : k < 30
    · obtain ⟨ad, a, l, f, A1, c1, rfl, g0, g1, g2, hl, hC, hm⟩ := op_at HX.out k (by omega)
      have HC := Lib.hid hC
      have HA := Lib.hid (apart hC HIr.out.2)
      have g0' := old HBr.out g0
      have g1' := old HBr.out g1
      have g2' := old HBr.out g2
      obtain ⟨r1, r2, r3, hP⟩ := Put_total m l (hxb _ hm) f
      have HP := Lib.hid hP
      clear hC hm g0 g1 g2 hP
      go_wp2_with fail
      have HB3 := Lib.hid (HBr.out.alloc HBr.out.size (.cells #[.int .i64 a, .slice A1 l.length c1, .int .u64 f] 35))
      refine (array_Index_Put.calls 20 g m A1 c1 l f r1 r2 r3 m w _ (s_alloc HIr.out _) HB3.out (Kd.C_below HC.out HB3.out) hl HA.out HP.out).mono ?_
      rintro e w4 ⟨rfl, hI4, hB4, hK4⟩
      have g3 : w4.cell? ⟨wr.heap.size, 1, none⟩ = some (.slice A1 l.length c1) := (blk_cell (hK4.blk (heap_alloc_new wr _) (Nat.ne_of_gt (blk_lt HIr.out.1)) (by simp)) 1).trans rfl
      have HI4 := Lib.hid hI4; have HB4 := Lib.hid hB4
      clear hI4 hB4 hK4
      go_wp2_with fail
      refine (array_Index_Del.calls g m A1 c1 l 0 2 m w _ HI4.out HB4.out (Kd.C_below HC.out HB4.out) hl HA.out rfl).mono ?_
      rintro e w5 ⟨rfl, hI5, hB5, hK5⟩
      have HI5 := Lib.hid hI5; have HB5 := Lib.hid hB5
      clear hI5 hB5 hK5
      go_wp2
      go_roundw
      case rel => exact ⟨k + 1, by omega, by go_num, HI5, HB5⟩
      case measure => simp [intOf]; omega
    · obtain ⟨rows, hK, hr⟩ := Keys_total m h1 h2
      have HK := Lib.hid hK
      have HR := Lib.hid hr
      have hF := Find_n m n h1 h2 hn0 hn1
      clear hK hr
      by_cases hnm : n < m
      · rw [if_pos hnm, decide_eq_true hnm] at hF
        have HF := Lib.hid hF
        have HNM := Lib.hid hnm
        clear hF hnm
        go_wp2_with fail
        refine (array_Index_Find.calls 20 g m (some ⟨wr.heap.size, 0, none⟩) 4 [n % 256, n / 256 % 256, n / 65536 % 256, n / 16777216] n true m w _ (s_alloc HIr.out _) (HBr.out.alloc HBr.out.size _) (lit4 (heap_alloc_new wr _)) (Nat.le_refl 4) (fun ad e _ => by cases e; exact Nat.ne_of_gt (blk_lt HIr.out.1)) HF.out).mono ?_
        rintro e w6 ⟨rfl, hI6, hB6, _⟩
        have HI6 := Lib.hid hI6; have HB6 := Lib.hid hB6
        clear hI6 hB6
        go_wp2_with fail
        refine (array_Index_Keys.calls (m.toNat + 10) g m rows m w _ HI6.out HB6.out HK.out).mono ?_
        rintro e w7 ⟨v, rfl, hS, hI7, hB7, _⟩
        obtain ⟨gk, ck, rfl, _⟩ := Kd.R_form (Kd.S_R hS) (by rw [HR.out]; omega)
        have HB7 := Lib.hid hB7
        clear hS hI7 hB7
        have e1 : ((rows.length : Int) == m) = true := by rw [HR.out, beq_iff_eq]; omega
        have e2 : decide (n < m) = true := decide_eq_true HNM.out
        go_wp2
        go_ret
        exact ⟨rfl, HB7.out⟩
      · rw [if_neg hnm, decide_eq_false hnm] at hF
        have HF := Lib.hid hF
        have HNM := Lib.hid hnm
        clear hF hnm
        go_wp2_with fail
        refine (array_Index_Find.calls 20 g m (some ⟨wr.heap.size, 0, none⟩) 4 [n % 256, n / 256 % 256, n / 65536 % 256, n / 16777216] 0 false m w _ (s_alloc HIr.out _) (HBr.out.alloc HBr.out.size _) (lit4 (heap_alloc_new wr _)) (Nat.le_refl 4) (fun ad e _ => by cases e; exact Nat.ne_of_gt (blk_lt HIr.out.1)) HF.out).mono ?_
        rintro e w6 ⟨rfl, hI6, hB6, _⟩
        have HI6 := Lib.hid hI6; have HB6 := Lib.hid hB6
        clear hI6 hB6
        go_wp2_with fail
        refine (array_Index_Keys.calls (m.toNat + 10) g m rows m w _ HI6.out HB6.out HK.out).mono ?_
        rintro e w7 ⟨v, rfl, hS, hI7, hB7, _⟩
        obtain ⟨gk, ck, rfl, _⟩ := Kd.R_form (Kd.S_R hS) (by rw [HR.out]; omega)
        have HB7 := Lib.hid hB7
        clear hS hI7 hB7
        have e1 : ((rows.length : Int) == m) = true := by rw [HR.out, beq_iff_eq]; omega
        have e2 : decide (n < m) = false := decide_eq_false (by have := HNM.out; omega)
        go_wp2
        go_ret
        exact ⟨rfl, HB7.out⟩
/-- The law, at whatever it is called. -/
theorem law_calls (m n : Int) (A : Option Addr) (xs : List (Int × List Int × Int)) (c : Nat) (w : World) (hn0 : 0 ≤ n) (hn1 : n < 4294967296) (hx : Kd.C kOp w A xs.length xs) (hc : xs.length ≤ c) (hcm : c ≤ 9223372036854775807) (hxb : ∀ p ∈ xs, ∀ b ∈ p.2.1, Byte b) :
    Calls Try.prog 4 #[.int .i64 m, .slice A xs.length c, .int .u32 n] w fun e w' => e = .returned (.bool true) ∧ Below w.heap.size w w' := by
  by_cases h : 1 ≤ m ∧ m ≤ 64
  · by_cases hl : xs.length ≤ 30
    · exact law_few m n A xs c w h.1 h.2 hn0 hn1 hx hc hcm hl hxb
    · exact law_many m n A xs c w h.1 h.2 hn0 hn1 hx hc hcm (by omega) hxb
  · exact law_bad m n A xs.length c w (by omega)
end Go.Proofs.Ytndgpadeiljlnaa.ArrAll
