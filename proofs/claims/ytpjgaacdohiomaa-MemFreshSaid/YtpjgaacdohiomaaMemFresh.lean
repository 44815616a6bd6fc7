/- mem: bytes of a fresh region are read just once something has been laid into all of them: the law's function, walked by hand. -/
import Derived.Test.YtpjgaacdohiomaaMemF
import Derived.Test.YtpjgaacdohiomaaMemH
namespace Go.Proofs.Ytpjgaacdohiomaa.MemFresh
open Go.RowKit Go.Proofs.Ytpjgaacdohiomaa.PMemCopies Go.Proofs.YtpjgaacdohiomaaW.PrintWords Go.Proofs.YtpjgaacdohiomaaW.PrintLast Go.Proofs.YtpjgaacdohiomaaW.PrintMore Go.Proofs.Ytpjgaacdohiomaa.Mw Go.Proofs.Ytpjgaacdohiomaa.Mem1 Go.Proofs.Ytpjgaacdohiomaa.Mem3 Go.Proofs.Ytpjgaacdohiomaa.Mem6 Go.Proofs.Ytpjgaacdohiomaa.Mem9 Go.Proofs.Ytpjgaacdohiomaa.MemN Go.Proofs.Ytpjgaacdohiomaa.MemC Go.Proofs.Ytpjgaacdohiomaa.MemQ Go.Proofs.Ytpjgaacdohiomaa.MemF Go.Proofs.Ytpjgaacdohiomaa.MemH
set_option linter.unusedVariables false
set_option linter.unusedSimpArgs false
theorem byte_is {w : World} {A : Option Addr} {l : List Int} (h : Kd.C (Kd.int .u8) w A l.length l) (i : Nat) (hi : i < l.length) : ∃ ad b, A = some ad ∧ w.cell? (ad.add i) = some (.int .u8 b) ∧ l[i]? = some b := by
  obtain ⟨ad, c, e, _, hK, hc⟩ := Kd.C_get h (0 : Int) (i : Int) (by omega) (by omega)
  rw [Int.toNat_natCast, List.getD_eq_getElem?_getD, List.getElem?_eq_getElem hi] at hK
  have hu := hc 0 (.int .u8 l[i]) (by rw [show c = [.int .u8 l[i]] from hK]; rfl)
  refine ⟨ad, l[i], e, ?_, List.getElem?_eq_getElem hi⟩
  have hu2 : w.cell? (ad.add (i * 1 + 0)) = some (.int .u8 l[i]) := hu
  rw [Nat.mul_one, Nat.add_zero] at hu2
  exact hu2
theorem tm (x m : Int) (hm : 0 < m ∧ m < 1000) : wrap64 ((IntKind.u64.wrap x).tmod m) = x % 18446744073709551616 % m ∧ 0 ≤ x % 18446744073709551616 % m ∧ x % 18446744073709551616 % m < m := by
  rw [IntKind.wrap_u64]
  have h0 : 0 ≤ x % 18446744073709551616 := Int.emod_nonneg _ (by decide)
  rw [Int.tmod_eq_emod_of_nonneg h0]
  have h1 := Int.emod_nonneg (x % 18446744073709551616) (show m ≠ 0 by omega)
  have h2 := Int.emod_lt_of_pos (x % 18446744073709551616) hm.1
  refine ⟨?_, h1, h2⟩
  generalize x % 18446744073709551616 % m = y at *
  unfold wrap64
  omega
theorem tn (x : Int) (m : Nat) (hm : 0 < m ∧ m < 1000) : ∃ k : Nat, k < m ∧ wrap64 ((IntKind.u64.wrap x).tmod (m : Int)) = (k : Int) := by
  obtain ⟨h1, h2, h3⟩ := tm x m (by omega)
  exact ⟨(x % 18446744073709551616 % m).toNat, by omega, by rw [h1]; omega⟩
theorem b_facts (x : Int) (h : 0 ≤ x ∧ x ≤ 255) : ∃ k : Nat, k < 64 ∧ x.tmod 64 = (k : Int) := by
  rw [Int.tmod_eq_emod_of_nonneg h.1]
  exact ⟨(x % 64).toNat, by omega, by omega⟩
theorem k_facts (k : Nat) (h : k < 64) : IntKind.u64.wrap (k : Int) = (k : Int) ∧ IntKind.u64.wrap (4294967296 + (k : Int)) = 4294967296 + (k : Int) ∧ wrap64 (k : Int) = (k : Int) ∧ (0 ≤ 4294967296 + (k : Int) ∧ 4294967296 + (k : Int) < 18446744073709551616) := by
  refine ⟨?_, ?_, ?_, ?_⟩
  · rw [IntKind.wrap_u64]; omega
  · rw [IntKind.wrap_u64]; omega
  · unfold wrap64; omega
  · omega
theorem sum_facts (a n : Nat) (ha : a < 64) (hn : n < 12) : wrap64 ((a : Int) + n) = (a : Int) + n := by unfold wrap64; omega
theorem v_facts (i : Nat) (h : i < 40) : (0 : Int) ≤ i ∧ (i : Int) < 18446744073709551616 := by omega
theorem fit_er {er : Int} {s : List Bool} {a n : Nat} (h : er = if n = 0 then 0 else if 64 < a + n then 10 else if allSet s a n = true then 0 else 11) (hf : a + n ≤ 64) : er = want s a n := by
  rw [h]
  by_cases h0 : n = 0
  · subst h0; rw [if_pos rfl, want_zero]
  · rw [if_neg h0, if_neg (by omega)]; rfl
theorem over_er {er : Int} {s : List Bool} {a n : Nat} (h : er = if n = 0 then 0 else if 64 < a + n then 10 else if allSet s a n = true then 0 else 11) (ha : a < 64) (hf : ¬ a + n ≤ 64) : er = 10 := by
  rw [h, if_neg (by omega), if_pos (by omega)]
theorem meas1 (n i : Nat) (h : i < n) : n - (intOf (Value.int .i64 ((i : Int) + 1))).toNat < n - (intOf (Value.int .i64 (i : Int))).toNat := by simp [intOf]; omega
theorem meas2 (n a j : Nat) (V : Int) (h : j < n) (hV : V = (a : Int) + j) : (a + n) - (intOf (Value.int .i64 (V + 1))).toNat < (a + n) - (intOf (Value.int .i64 V)).toNat := by subst hV; simp [intOf]; omega
theorem v_succ {a j : Nat} {V : Int} (h : V = (a : Int) + j) : V + 1 = (a : Int) + (j + 1 : Nat) := by omega
theorem an_facts (a n : Nat) (ha : a < 64) (hn : n < 12) : (0 : Int) ≤ a ∧ (a : Int) < 64 ∧ (0 : Int) ≤ n ∧ (n : Int) < 12 := by omega
theorem fit_int {a n : Nat} (h : a + n ≤ 64) : (a : Int) + n ≤ 64 := by omega
theorem nofit_int {a n : Nat} (h : ¬ a + n ≤ 64) : ¬ (a : Int) + n ≤ 64 := by omega
theorem js_facts {a n j : Nat} (h : j < n) (hf : a + n ≤ 64) : a + j < 64 := by omega
theorem v_all (a n j : Nat) (V : Int) (ha : a < 64) (hn : n < 12) (h : V = (a : Int) + j) : (j < n → a + n ≤ 64 → V < (a : Int) + n ∧ 0 ≤ V ∧ V < 64 ∧ V.toNat = a + j ∧ wrap64 (V + 1) = V + 1) ∧ (¬ j < n → ¬ V < (a : Int) + n) := by
  refine ⟨fun h1 h2 => ⟨by omega, by omega, by omega, by omega, ?_⟩, fun h1 => by omega⟩
  unfold wrap64
  omega
structure St (w wr : World) (F : Nat → Prop) (g bs : Nat) (l : List Int) (s : List Bool) : Prop where
  ll : l.length = 64
  sl : s.length = 64
  mq : MQ wr F g [rf l s] 1
  row : Row wr bs 4 (s.map Value.bool)
  nf : ¬ F bs
  bel : Below w.heap.size w wr
  low : ∀ b, F b → w.heap.size ≤ b
  lowb : w.heap.size ≤ bs
theorem St.store {w wr w' : World} {F : Nat → Prop} {g bs k : Nat} {l : List Int} {s : List Bool} {v : Int} (h : St w wr F g bs l s) (hk : k < 64) (hM : MQ w' F g [rf (over l (putB v 1) k) (s.set k true)] 1) (hS : Step wr w' F F) : St w (w'.setCell ⟨bs, k, none⟩ (.bool true)) F g bs (over l (putB v 1) k) (s.set k true) := by
  have hb := hS.below h.bel h.low
  have hrow := hS.row h.row h.nf
  refine ⟨over_len1 l k v h.ll hk, by rw [List.length_set]; exact h.sl, ?_, ?_, h.nf, ?_, h.low, h.lowb⟩
  · exact hM.step ((Step.refl w' (fun b => b = bs)).setCell (p := ⟨bs, k, none⟩) (.inl rfl) (.bool true)) (fun b hb e => h.nf (e ▸ hb))
  · have := hrow.set_ k (by rw [List.length_map, h.sl]; exact hk) (.bool true)
    rw [List.map_set]
    exact this
  · exact ((Step.refl w' (fun b => b = bs)).setCell (p := ⟨bs, k, none⟩) (.inl rfl) (.bool true)).below hb (fun b e => by rw [e]; exact h.lowb)
set_option maxRecDepth 100000 in
set_option maxHeartbeats 8000000 in
theorem law_calls (A : Option Addr) (key : List Int) (c : Nat) (a n : Int) (w : World) (hk : Kd.C (Kd.int .u8) w A key.length key) (hc : key.length ≤ c) (hcm : c ≤ 9223372036854775807) (hkb : ∀ x ∈ key, 0 ≤ x ∧ x ≤ 255) :
    Calls Try.prog 4 #[.slice A key.length c, .int .i64 a, .int .i64 n] w fun e w' => e = .returned (.bool true) ∧ Below w.heap.size w w' := by
  have HKY := Lib.hid hk
  have HKB := Lib.hid hkb
  clear hk hkb
  obtain ⟨nn, hnn⟩ : ∃ nn : Nat, nn = key.length := ⟨_, rfl⟩
  have HN := Lib.hid hnn
  rw [← hnn] at hc ⊢
  clear hnn
  obtain ⟨a0, ha0, ha⟩ := tn a 64 (by omega)
  obtain ⟨n0, hn0, hn⟩ := tn n 12 (by omega)
  have ha : wrap64 ((IntKind.u64.wrap a).tmod 64) = (a0 : Int) := ha
  have hn : wrap64 ((IntKind.u64.wrap n).tmod 12) = (n0 : Int) := hn
  have HA0 := Lib.hid ha0
  have HN0 := Lib.hid hn0
  have HAA := Lib.hid ha
  have HNA := Lib.hid hn
  clear ha0 hn0 ha hn hcm
  have hm2 : ∀ W, (Instr.makeSlice 37 (.int .i64 64) (.int .i64 64)).run Try.prog W = .ok (.slice (some ⟨W.heap.size, 0, none⟩) 64 64) (W.alloc (.cells (madeCells #[.bool false] 64) 4)) := by
    obtain ⟨i1, hi1, hz1, hs1, hb1⟩ := info_parts (P := Try.prog) (e := 4) (z := .bool false) (size := 1) (bytes := 1) (by kernel_rfl)
    intro W
    have := run_makeSlice (P := Try.prog) W 37 4 i1 (.bool false) Try.underlying37 hi1 hz1 .i64 .i64 64 64 (by omega) (by omega) (by rw [hs1]; omega) (by rw [hb1]; omega) (by omega)
    rw [hs1] at this
    exact this
  go_enter Try.func4, Try.ntmps4
  go_wp2_with fail
  refine (first_calls w).mono ?_
  rintro e w1 ⟨rfl, hB⟩
  have HB := Lib.hid hB
  clear hB
  go_wp2_with fail
  refine (q_new w1).mono ?_
  rintro e w2 ⟨F, g, rfl, hM, hF, hB⟩
  have HB2 := Lib.hid (HB.out.trans (hB.mono HB.out.size))
  have HF := Lib.hid (fun b hb => Nat.le_trans HB.out.size (hF b hb))
  have hA := q_add hM (by omega) 4294967296 64 7 (by omega) (by omega)
  rw [show addQ [] 0 4294967296 64 7 = (0, 0, [rf (List.replicate 64 0) (List.replicate 64 false)], 1) by decide +kernel] at hA
  have HA := Lib.hid hA
  clear hM hF hB hA HB
  go_wp2_with fail
  refine HA.out.mono ?_
  rintro e w3 ⟨rfl, F2, hM, hS⟩
  have HST : Hid (∃ l s, St w (w3.alloc (.cells (madeCells #[.bool false] 64) 4)) F2 g w3.heap.size l s) := Lib.hid (by
    have hb := hS.below HB2.out HF.out
    refine ⟨List.replicate 64 0, List.replicate 64 false, by simp, by simp, hM.below (below_alloc (Below.refl _ _) _), Row.of (heap_alloc_new w3 _) (by rw [toList_madeCells_one, List.map_replicate]), fun h => Nat.lt_irrefl _ (hM.lt _ h), below_alloc hb _, hS.low HB2.out.size HF.out, hb.size⟩)
  clear hM hS HB2 HF HA
  go_wp2
  generalize w3.heap.size = bs at *
  clear hm2
  go_loopw [33] (fun u wr => ∃ i : Nat, i ≤ nn ∧ u = .int .i64 (i : Int) ∧ Hid (∃ l s, St w wr F2 g bs l s)) (fun u _ => nn - (intOf u).toNat)
  case atStart => exact ⟨0, Nat.zero_le _, rfl, HST⟩
  case round =>
    clear HST
    obtain ⟨i, hi, rfl, HS⟩ := hrel
    obtain ⟨l, s, hT⟩ := HS.out
    have HT := Lib.hid hT
    clear hT HS
    by_cases hlt : i < nn
    · obtain ⟨ad, x, rfl, g0, hx⟩ := byte_is HKY.out i (by rw [← HN.out]; exact hlt)
      have g0' := old HT.out.bel g0
      clear g0
      by_cases h40 : i < 40
      · have n40 : ¬ ((i : Int) ≥ 40) := by omega
        obtain ⟨k, hk, e0⟩ := b_facts x (HKB.out x (List.mem_of_getElem? hx))
        obtain ⟨e1, e2, e3, e7⟩ := k_facts k hk
        have e4 := (k_facts i (by omega)).1
        have hC := q_store HT.out.mq (4294967296 + k) 1 i e7 (v_facts i h40)
        rw [store_rf l s k i HT.out.ll HT.out.sl hk] at hC
        simp only at hC
        have e8 : (0 : Int) ≤ k := Int.natCast_nonneg k
        have e9 : (k : Int) < 64 := Int.ofNat_lt.2 hk
        have e10 : (k : Int).toNat = k := Int.toNat_natCast k
        obtain ⟨K, hK⟩ : ∃ K : Int, K = (k : Int) := ⟨_, rfl⟩
        obtain ⟨I, hI⟩ : ∃ I : Int, I = (i : Int) := ⟨_, rfl⟩
        rw [← hK] at e0 e1 e2 e3 e8 e9 e10 hC
        have HC := Lib.hid hC
        have HKK := Lib.hid hk
        clear hC e7 hx hK hI
        go_wp2_with fail
        refine HC.out.mono ?_
        rintro e w4 ⟨rfl, hM, hS⟩
        have HS4 : Hid (∃ l s, St w (w4.setCell ⟨bs, k, none⟩ (.bool true)) F2 g bs l s) := Lib.hid ⟨_, _, HT.out.store HKK.out hM hS⟩
        have hrow := hS.row HT.out.row HT.out.nf
        have hl64 : k < (s.map Value.bool).length := by rw [List.length_map, HT.out.sl]; exact HKK.out
        have c1 : ∃ u, w4.cell? ⟨bs, k, none⟩ = some u := ⟨_, hrow.cell k hl64⟩
        obtain ⟨u, c1⟩ := c1
        have c2 := hrow.frozen k
        clear hrow hl64 hM hS HC
        go_wp2
        case roundEnd => exact ⟨⟨i + 1, Nat.succ_le_of_lt hlt, by go_num, HS4⟩, meas1 nn i hlt⟩
      · have n40 : ((i : Int) ≥ 40) := by omega
        have ha := HAA.out
        have hn := HNA.out
        have ha0 := HA0.out
        have hn0 := HN0.out
        clear hx
        obtain ⟨e1, e2, e3, e7⟩ := k_facts a0 ha0
        have e4 := sum_facts a0 n0 ha0 hn0
        have hC := q_read HT.out.mq (4294967296 + a0) n0 e7
        obtain ⟨er, her⟩ : ∃ er, er = (readQ [rf l s] (4294967296 + (a0 : Int)) n0).1 := ⟨_, rfl⟩
        have HER := Lib.hid (her.trans (read_rf l s a0 n0 HT.out.ll ha0))
        rw [← her] at hC
        obtain ⟨b1, b2, b3, b4⟩ := an_facts a0 n0 ha0 hn0
        obtain ⟨AI, hAI⟩ : ∃ AI : Int, AI = (a0 : Int) := ⟨_, rfl⟩
        obtain ⟨NI, hNI⟩ : ∃ NI : Int, NI = (n0 : Int) := ⟨_, rfl⟩
        have HVF := Lib.hid (fun (V : Int) (j : Nat) (hV : V = (a0 : Int) + j) => v_all a0 n0 j V ha0 hn0 hV)
        rw [← hAI] at hC e1 e2 e3 e4 b1 b2 ha HVF
        rw [← hNI] at hC e4 b3 b4 hn HVF
        have HC := Lib.hid (hC.mono fun x w' hh => (⟨hh.choose, hh.choose_spec.1, hh.choose_spec.2.2⟩ : ∃ v, x = .returned (.tuple #[v, .int .i64 er]) ∧ Below wr.heap.size wr w'))
        have HAI := Lib.hid hAI
        have HNI := Lib.hid hNI
        clear hC her e7 hAI hNI
        go_wp2_with fail
        refine HC.out.mono ?_
        rintro e w6 ⟨v6, rfl, hB6⟩
        have HM6 := Lib.hid (HT.out.mq.below hB6)
        have HB6 := Lib.hid (HT.out.bel.trans (hB6.mono HT.out.bel.size))
        have HR6 := Lib.hid (HT.out.row.keep (hB6.block _ HT.out.row.lt))
        have HSL := Lib.hid HT.out.sl
        have HLL := Lib.hid HT.out.ll
        clear hB6 HC HT
        have hCB := q_bytes HM6.out 0
        rw [bytes_rf l s] at hCB
        have HCB := Lib.hid hCB
        clear hCB
        by_cases hfit : a0 + n0 ≤ 64
        · have HE := Lib.hid (fit_er HER.out hfit)
          have f1 : AI + NI ≤ 64 := by rw [HAI.out, HNI.out]; exact fit_int hfit
          go_wp2
          go_loop [16, 17] (fun u v => ∃ (j : Nat) (U V : Int), j ≤ n0 ∧ u = .int .i64 U ∧ v = .int .i64 V ∧ Hid (U = want s a0 j) ∧ Hid (V = (a0 : Int) + j)) (fun u v => (a0 + n0) - (intOf v).toNat)
          case atStart => exact ⟨0, 0, AI, Nat.zero_le _, rfl, rfl, Lib.hid (want_zero s a0).symm, Lib.hid (by rw [HAI.out]; simp)⟩
          case round =>
            obtain ⟨j, U, V, hj, rfl, rfl, HU, HV⟩ := hrel
            by_cases hjn : j < n0
            · obtain ⟨d1, d2, d3, d4, d5⟩ := (HVF.out V j (by rw [HAI.out]; exact HV.out)).1 hjn hfit
              have hjs : a0 + j < s.length := by rw [HSL.out]; exact js_facts hjn hfit
              have hcell := HR6.out.cell (a0 + j) (by rw [List.length_map]; exact hjs)
              rw [List.getElem_map] at hcell
              have hws := want_succ s a0 j hjs
              cases hv : s[a0 + j]'hjs with
              | true =>
                rw [hv] at hcell hws
                rw [if_pos rfl] at hws
                have HWS := Lib.hid hws
                clear hws hv hjs
                go_wp2
                case roundEnd => exact ⟨⟨j + 1, U, V + 1, Nat.succ_le_of_lt hjn, rfl, rfl, Lib.hid (HU.out.trans HWS.out.symm), Lib.hid (v_succ HV.out)⟩, meas2 n0 a0 j V hjn HV.out⟩
              | false =>
                rw [hv] at hcell hws
                rw [if_neg (by simp)] at hws
                have HWS := Lib.hid hws
                clear hws hv hjs
                go_wp2
                case roundEnd => exact ⟨⟨j + 1, 11, V + 1, Nat.succ_le_of_lt hjn, rfl, rfl, Lib.hid HWS.out.symm, Lib.hid (v_succ HV.out)⟩, meas2 n0 a0 j V hjn HV.out⟩
            · obtain rfl : j = n0 := Nat.le_antisymm hj (Nat.le_of_not_lt hjn)
              have d1 : ¬ V < AI + NI := Int.not_lt.2 ((HVF.out V j (by rw [HAI.out]; exact HV.out)).2 hjn)
              obtain rfl : er = U := HE.out.trans HU.out.symm
              go_wp2_with fail
              refine HCB.out.mono ?_
              rintro e w7 ⟨v7, rfl, hv7, hB7⟩
              have HB7 := Lib.hid (HB6.out.trans (hB7.mono HB6.out.size))
              rcases hv7 with ⟨h0, -⟩ | ⟨b7, c7, rfl, hc7, -, -⟩
              · exact absurd (HLL.out.symm.trans (congrArg List.length h0)) (by simp)
              rw [HLL.out] at hc7 ⊢
              clear hB7 HCB
              go_wp2
              go_ret
              exact ⟨rfl, HB7.out⟩
        · have HE := Lib.hid (over_er HER.out ha0 hfit)
          have f1 : ¬ AI + NI ≤ 64 := by rw [HAI.out, HNI.out]; exact nofit_int hfit
          have f2 : AI + NI > 64 := Int.not_le.1 f1
          obtain rfl : er = 10 := HE.out
          go_wp2
          go_loop [16, 17] (fun u v => u = .int .i64 0 ∧ v = .int .i64 AI) (fun u v => 0)
          case atStart => exact ⟨rfl, rfl⟩
          case round =>
            obtain ⟨rfl, rfl⟩ := hrel
            go_wp2_with fail
            all_goals
              refine HCB.out.mono ?_
              rintro e w7 ⟨v7, rfl, hv7, hB7⟩
              have HB7 := Lib.hid (HB6.out.trans (hB7.mono HB6.out.size))
              rcases hv7 with ⟨h0, -⟩ | ⟨b7, c7, rfl, hc7, -, -⟩
              · exact absurd (HLL.out.symm.trans (congrArg List.length h0)) (by simp)
              rw [HLL.out] at hc7 ⊢
              clear hB7 HCB
              go_wp2
              go_ret
              exact ⟨rfl, HB7.out⟩
    · have ha0 := HA0.out
      have hn0 := HN0.out
      have ha := HAA.out
      have hn := HNA.out
      obtain ⟨e1, e2, e3, e7⟩ := k_facts a0 ha0
      have e4 := sum_facts a0 n0 ha0 hn0
      have hC := q_read HT.out.mq (4294967296 + a0) n0 e7
      obtain ⟨er, her⟩ : ∃ er, er = (readQ [rf l s] (4294967296 + (a0 : Int)) n0).1 := ⟨_, rfl⟩
      have HER := Lib.hid (her.trans (read_rf l s a0 n0 HT.out.ll ha0))
      rw [← her] at hC
      obtain ⟨b1, b2, b3, b4⟩ := an_facts a0 n0 ha0 hn0
      obtain ⟨AI, hAI⟩ : ∃ AI : Int, AI = (a0 : Int) := ⟨_, rfl⟩
      obtain ⟨NI, hNI⟩ : ∃ NI : Int, NI = (n0 : Int) := ⟨_, rfl⟩
      have HVF := Lib.hid (fun (V : Int) (j : Nat) (hV : V = (a0 : Int) + j) => v_all a0 n0 j V ha0 hn0 hV)
      rw [← hAI] at hC e1 e2 e3 e4 b1 b2 ha HVF
      rw [← hNI] at hC e4 b3 b4 hn HVF
      have HC := Lib.hid (hC.mono fun x w' hh => (⟨hh.choose, hh.choose_spec.1, hh.choose_spec.2.2⟩ : ∃ v, x = .returned (.tuple #[v, .int .i64 er]) ∧ Below wr.heap.size wr w'))
      have HAI := Lib.hid hAI
      have HNI := Lib.hid hNI
      clear hC her e7 hAI hNI
      go_wp2_with fail
      refine HC.out.mono ?_
      rintro e w6 ⟨v6, rfl, hB6⟩
      have HM6 := Lib.hid (HT.out.mq.below hB6)
      have HB6 := Lib.hid (HT.out.bel.trans (hB6.mono HT.out.bel.size))
      have HR6 := Lib.hid (HT.out.row.keep (hB6.block _ HT.out.row.lt))
      have HSL := Lib.hid HT.out.sl
      have HLL := Lib.hid HT.out.ll
      clear hB6 HC HT
      have hCB := q_bytes HM6.out 0
      rw [bytes_rf l s] at hCB
      have HCB := Lib.hid hCB
      clear hCB
      by_cases hfit : a0 + n0 ≤ 64
      · have HE := Lib.hid (fit_er HER.out hfit)
        have f1 : AI + NI ≤ 64 := by rw [HAI.out, HNI.out]; exact fit_int hfit
        go_wp2
        go_loop [16, 17] (fun u v => ∃ (j : Nat) (U V : Int), j ≤ n0 ∧ u = .int .i64 U ∧ v = .int .i64 V ∧ Hid (U = want s a0 j) ∧ Hid (V = (a0 : Int) + j)) (fun u v => (a0 + n0) - (intOf v).toNat)
        case atStart => exact ⟨0, 0, AI, Nat.zero_le _, rfl, rfl, Lib.hid (want_zero s a0).symm, Lib.hid (by rw [HAI.out]; simp)⟩
        case round =>
          obtain ⟨j, U, V, hj, rfl, rfl, HU, HV⟩ := hrel
          by_cases hjn : j < n0
          · obtain ⟨d1, d2, d3, d4, d5⟩ := (HVF.out V j (by rw [HAI.out]; exact HV.out)).1 hjn hfit
            have hjs : a0 + j < s.length := by rw [HSL.out]; exact js_facts hjn hfit
            have hcell := HR6.out.cell (a0 + j) (by rw [List.length_map]; exact hjs)
            rw [List.getElem_map] at hcell
            have hws := want_succ s a0 j hjs
            cases hv : s[a0 + j]'hjs with
            | true =>
              rw [hv] at hcell hws
              rw [if_pos rfl] at hws
              have HWS := Lib.hid hws
              clear hws hv hjs
              go_wp2
              case roundEnd => exact ⟨⟨j + 1, U, V + 1, Nat.succ_le_of_lt hjn, rfl, rfl, Lib.hid (HU.out.trans HWS.out.symm), Lib.hid (v_succ HV.out)⟩, meas2 n0 a0 j V hjn HV.out⟩
            | false =>
              rw [hv] at hcell hws
              rw [if_neg (by simp)] at hws
              have HWS := Lib.hid hws
              clear hws hv hjs
              go_wp2
              case roundEnd => exact ⟨⟨j + 1, 11, V + 1, Nat.succ_le_of_lt hjn, rfl, rfl, Lib.hid HWS.out.symm, Lib.hid (v_succ HV.out)⟩, meas2 n0 a0 j V hjn HV.out⟩
          · obtain rfl : j = n0 := Nat.le_antisymm hj (Nat.le_of_not_lt hjn)
            have d1 : ¬ V < AI + NI := Int.not_lt.2 ((HVF.out V j (by rw [HAI.out]; exact HV.out)).2 hjn)
            obtain rfl : er = U := HE.out.trans HU.out.symm
            go_wp2_with fail
            refine HCB.out.mono ?_
            rintro e w7 ⟨v7, rfl, hv7, hB7⟩
            have HB7 := Lib.hid (HB6.out.trans (hB7.mono HB6.out.size))
            rcases hv7 with ⟨h0, -⟩ | ⟨b7, c7, rfl, hc7, -, -⟩
            · exact absurd (HLL.out.symm.trans (congrArg List.length h0)) (by simp)
            rw [HLL.out] at hc7 ⊢
            clear hB7 HCB
            go_wp2
            go_ret
            exact ⟨rfl, HB7.out⟩
      · have HE := Lib.hid (over_er HER.out ha0 hfit)
        have f1 : ¬ AI + NI ≤ 64 := by rw [HAI.out, HNI.out]; exact nofit_int hfit
        have f2 : AI + NI > 64 := Int.not_le.1 f1
        obtain rfl : er = 10 := HE.out
        go_wp2
        go_loop [16, 17] (fun u v => u = .int .i64 0 ∧ v = .int .i64 AI) (fun u v => 0)
        case atStart => exact ⟨rfl, rfl⟩
        case round =>
          obtain ⟨rfl, rfl⟩ := hrel
          go_wp2_with fail
          all_goals
            refine HCB.out.mono ?_
            rintro e w7 ⟨v7, rfl, hv7, hB7⟩
            have HB7 := Lib.hid (HB6.out.trans (hB7.mono HB6.out.size))
            rcases hv7 with ⟨h0, -⟩ | ⟨b7, c7, rfl, hc7, -, -⟩
            · exact absurd (HLL.out.symm.trans (congrArg List.length h0)) (by simp)
            rw [HLL.out] at hc7 ⊢
            clear hB7 HCB
            go_wp2
            go_ret
            exact ⟨rfl, HB7.out⟩
end Go.Proofs.Ytpjgaacdohiomaa.MemFresh
