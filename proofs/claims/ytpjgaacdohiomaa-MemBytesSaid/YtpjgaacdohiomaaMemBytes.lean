/- mem: a number laid is read again, nothing beside it changed: the law's function, walked by hand. -/
import Derived.Test.YtpjgaacdohiomaaMemF
import Derived.Test.YtpjgaacdohiomaaMemG
namespace Go.Proofs.Ytpjgaacdohiomaa.MemBytes
open Go.RowKit Go.Proofs.Ytpjgaacdohiomaa.PMemCopies Go.Proofs.YtpjgaacdohiomaaW.PrintWords Go.Proofs.YtpjgaacdohiomaaW.PrintLast Go.Proofs.YtpjgaacdohiomaaW.PrintMore Go.Proofs.Ytpjgaacdohiomaa.Mw Go.Proofs.Ytpjgaacdohiomaa.Mem1 Go.Proofs.Ytpjgaacdohiomaa.Mem6 Go.Proofs.Ytpjgaacdohiomaa.MemN Go.Proofs.Ytpjgaacdohiomaa.MemC Go.Proofs.Ytpjgaacdohiomaa.MemQ Go.Proofs.Ytpjgaacdohiomaa.MemF Go.Proofs.Ytpjgaacdohiomaa.MemG
set_option linter.unusedVariables false
theorem pick (z : Int) (h0 : 0 ≤ z) (h4 : z < 4) : ∃ n : Nat, (n = 1 ∨ n = 2 ∨ n = 4 ∨ n = 8) ∧ ∀ h, ([Value.int .i64 1, Value.int .i64 2, Value.int .i64 4, Value.int .i64 8] : List Value)[z.toNat]'h = .int .i64 (n : Int) := by
  obtain ⟨q, rfl⟩ := Int.eq_ofNat_of_zero_le h0
  rw [Int.toNat_natCast]
  match q, (show q < 4 by omega) with
  | 0, _ => exact ⟨1, by simp, fun _ => rfl⟩
  | 1, _ => exact ⟨2, by simp, fun _ => rfl⟩
  | 2, _ => exact ⟨4, by simp, fun _ => rfl⟩
  | 3, _ => exact ⟨8, by simp, fun _ => rfl⟩
theorem tm (x m : Int) (hm : 0 < m ∧ m < 1000) : wrap64 ((IntKind.u64.wrap x).tmod m) = x % 18446744073709551616 % m ∧ 0 ≤ x % 18446744073709551616 % m ∧ x % 18446744073709551616 % m < m := by
  rw [IntKind.wrap_u64]
  have h0 : 0 ≤ x % 18446744073709551616 := Int.emod_nonneg _ (by decide)
  rw [Int.tmod_eq_emod_of_nonneg h0]
  have h1 := Int.emod_nonneg (x % 18446744073709551616) (show m ≠ 0 by omega)
  have h2 := Int.emod_lt_of_pos (x % 18446744073709551616) hm.1
  refine ⟨?_, h1, h2⟩
  generalize x % 18446744073709551616 % m = y at *
  unfold wrap64
  omega
theorem mask {v : Int} (hv : 0 ≤ v ∧ v < 18446744073709551616) (n : Nat) (hn : n = 1 ∨ n = 2 ∨ n = 4) : Go.bits .and .u64 v (256 ^ n - 1) = v % 256 ^ n := by
  obtain ⟨x, rfl⟩ := Int.eq_ofNat_of_zero_le hv.1
  have key : ∀ m : Nat, m < 64 → ∀ y : Int, y = ((2 ^ m - 1 : Nat) : Int) → Go.bits .and .u64 (x : Int) y = (x : Int) % ((2 ^ m : Nat) : Int) := fun m hm y hy => by
    have h1 : 2 ^ m ≤ 2 ^ 63 := Nat.pow_le_pow_right (by decide) (by omega)
    have h2 : 2 ^ 63 < 18446744073709551616 := by decide
    rw [hy, Num.and_nat (by omega) (by omega), Nat.and_two_pow_sub_one_eq_mod, Int.natCast_emod]
  rcases hn with rfl | rfl | rfl
  · exact key 8 (by decide) _ rfl
  · exact key 16 (by decide) _ rfl
  · exact key 32 (by decide) _ rfl
theorem and255 {v : Int} (hv : 0 ≤ v ∧ v < 18446744073709551616) : Go.bits .and .u64 v 255 = v % 256 := by
  have := mask hv 1 (.inl rfl)
  exact this
theorem shl_one (n : Nat) (hn : n = 1 ∨ n = 2 ∨ n = 4) : shl .u64 1 (8 * (n : Int)) = 256 ^ n ∧ IntKind.u64.wrap ((256 : Int) ^ n - 1) = 256 ^ n - 1 := by
  rcases hn with rfl | rfl | rfl <;> exact ⟨by decide +kernel, by decide +kernel⟩
theorem shr_got {v : Int} (hv : 0 ≤ v ∧ v < 18446744073709551616) (i n k : Nat) (h1 : i ≤ k) (h2 : k < i + n) (hk : k < 32) (hn : n ≤ 8) : Go.bits .and .u64 (v / 2 ^ (8 * (k - i))) 255 = got v i n k := by
  unfold got
  rw [if_pos ⟨h1, h2⟩]
  obtain ⟨x, rfl⟩ := Int.eq_ofNat_of_zero_le hv.1
  generalize k - i = j
  have hle : x / 2 ^ (8 * j) ≤ x := Nat.div_le_self _ _
  have he : (x : Int) / 2 ^ (8 * j) = ((x / 2 ^ (8 * j) : Nat) : Int) := by
    rw [Int.natCast_ediv, Int.natCast_pow]
    rfl
  have h0 : 0 ≤ ((x / 2 ^ (8 * j) : Nat) : Int) := Int.natCast_nonneg _
  have h1 : ((x / 2 ^ (8 * j) : Nat) : Int) < 18446744073709551616 := by
    generalize x / 2 ^ (8 * j) = z at *
    omega
  rw [he, and255 ⟨h0, h1⟩, pow8, he]
theorem k_facts (k : Nat) (h : k < 32) : IntKind.u64.wrap (k : Int) = (k : Int) ∧ IntKind.u64.wrap (4294967296 + (k : Int)) = 4294967296 + (k : Int) ∧ wrap64 (100 + (k : Int)) = 100 + (k : Int) ∧ IntKind.u64.wrap (100 + (k : Int)) = 100 + (k : Int) ∧ (0 ≤ 4294967296 + (k : Int) ∧ 4294967296 + (k : Int) < 18446744073709551616) := by
  refine ⟨?_, ?_, ?_, ?_, ?_⟩
  · rw [IntKind.wrap_u64]; omega
  · rw [IntKind.wrap_u64]; omega
  · unfold wrap64; omega
  · rw [IntKind.wrap_u64]; omega
  · omega
theorem meas (k : Nat) (h : k < 32) : 32 - (intOf (Value.int .i64 ((k : Int) + 1))).toNat < 32 - (intOf (Value.int .i64 (k : Int))).toNat := by simp [intOf]; omega
theorem kk_facts (K : Int) (h0 : 0 ≤ K) (h : K < 32) : IntKind.u64.wrap K = K ∧ IntKind.u64.wrap (4294967296 + K) = 4294967296 + K ∧ wrap64 (100 + K) = 100 + K ∧ IntKind.u64.wrap (100 + K) = 100 + K ∧ wrap64 (K + 1) = K + 1 ∧ (0 ≤ 4294967296 + K ∧ 4294967296 + K < 18446744073709551616) := by
  refine ⟨?_, ?_, ?_, ?_, ?_, ?_⟩
  · rw [IntKind.wrap_u64]; omega
  · rw [IntKind.wrap_u64]; omega
  · unfold wrap64; omega
  · rw [IntKind.wrap_u64]; omega
  · unfold wrap64; omega
  · omega
theorem jj_facts (K I : Int) (i k : Nat) (hK : K = (k : Int)) (hI : I = (i : Int)) (hk : K < 32) (h : K ≥ I) : ∃ J E : Int, wrap64 (K - I) = J ∧ wrap64 (8 * J) = E ∧ IntKind.u64.wrap E = E ∧ 0 ≤ E ∧ E.toNat = 8 * (k - i) ∧ i ≤ k := by
  refine ⟨K - I, 8 * (K - I), ?_, ?_, ?_, ?_, ?_, ?_⟩
  · unfold wrap64; omega
  · unfold wrap64; omega
  · rw [IntKind.wrap_u64]; omega
  · omega
  · omega
  · omega
theorem tn_facts (K I : Int) (i k : Nat) (hK : K = (k : Int)) (hI : I = (i : Int)) (h : i ≤ k) : (8 * (K - I)).toNat = 8 * (k - i) := by omega
theorem e_le {E : Int} {n : Nat} (h0 : 0 ≤ E) (h : E.toNat = n) (h2 : n ≤ 63) : E ≤ 64 ∧ E < 64 := by omega
theorem sh_le {k i n : Nat} (h : k < i + n) (hn : n ≤ 8) : 8 * (k - i) ≤ 63 := by omega
theorem kmeas (K : Int) (h0 : 0 ≤ K) (h : K < 32) : 32 - (intOf (Value.int .i64 (K + 1))).toNat < 32 - (intOf (Value.int .i64 K)).toNat := by simp [intOf]; omega
theorem out2 (v K I N : Int) (k i n : Nat) (hK : K = (k : Int)) (hI : I = (i : Int)) (hN : N = (n : Int)) (h : ¬ (K ≥ I ∧ K < I + N)) : got v i n k = 100 + K := by subst hK hI hN; unfold got; rw [if_neg (by omega)]
theorem lt2 (K I N : Int) (k i n : Nat) (hK : K = (k : Int)) (hI : I = (i : Int)) (hN : N = (n : Int)) (h : K < I + N) : k < i + n := by omega
theorem in_facts (I N : Int) (i n : Nat) (hI : I = (i : Int)) (hN : N = (n : Int)) (hi : i < 25) (hn : n ≤ 8) (h0 : 0 < n) : IntKind.u64.wrap I = I ∧ IntKind.u64.wrap (4294967296 + I) = 4294967296 + I ∧ wrap64 (I + N) = I + N ∧ (0 ≤ 4294967296 + I ∧ 4294967296 + I < 18446744073709551616) ∧ 0 ≤ I ∧ I < 25 ∧ 0 < N ∧ N ≤ 8 := by
  subst hI hN
  refine ⟨?_, ?_, ?_, ?_, ?_⟩
  · rw [IntKind.wrap_u64]; omega
  · rw [IntKind.wrap_u64]; omega
  · unfold wrap64; omega
  · omega
  · omega
theorem want_facts {v : Int} (hv : 0 ≤ v ∧ v < 18446744073709551616) (n : Nat) (N P : Int) (hn : n = 1 ∨ n = 2 ∨ n = 4 ∨ n = 8) (hN : N = (n : Int)) (hP : P = 256 ^ n) :
    (¬ N < 8 → v % P = v) ∧ (N < 8 → ∃ E : Int, wrap64 (8 * N) = E ∧ IntKind.u64.wrap E = E ∧ 0 ≤ E ∧ E ≤ 64 ∧ IntKind.u64.wrap (2 ^ E.toNat) = P ∧ IntKind.u64.wrap (2 ^ (8 * N).toNat) = P ∧ IntKind.u64.wrap (P - 1) = P - 1 ∧ Go.bits .and .u64 v (P - 1) = v % P) := by
  subst hN hP
  refine ⟨fun h => ?_, fun h => ?_⟩
  · obtain rfl : n = 8 := by omega
    exact Int.emod_eq_of_lt hv.1 hv.2
  · have hn' : n = 1 ∨ n = 2 ∨ n = 4 := by omega
    refine ⟨8 * n, ?_, ?_, by omega, by omega, ?_, ?_, (shl_one n hn').2, mask hv n hn'⟩
    · rcases hn' with rfl | rfl | rfl <;> decide +kernel
    · rcases hn' with rfl | rfl | rfl <;> decide +kernel
    · rcases hn' with rfl | rfl | rfl <;> decide +kernel
    · rcases hn' with rfl | rfl | rfl <;> decide +kernel
theorem out_facts (v : Int) (k i n : Nat) (h : ¬ ((k : Int) ≥ (i : Int) ∧ (k : Int) < (i : Int) + n)) : got v i n k = 100 + (k : Int) := by unfold got; rw [if_neg (by omega)]
theorem lt_facts (k i n : Nat) (h : (k : Int) < (i : Int) + n) : k < i + n := by omega
set_option maxRecDepth 100000 in
set_option maxHeartbeats 8000000 in
theorem law_calls (v a s : Int) (w : World) (hv : 0 ≤ v ∧ v < 18446744073709551616) :
    Calls Try.prog 3 #[.int .u64 v, .int .i64 a, .int .i64 s] w fun e w' => e = .returned (.bool true) ∧ Below w.heap.size w w' := by
  obtain ⟨t1, t2, t3⟩ := tm s 4 (by omega)
  have hz0 : 0 ≤ wrap64 ((IntKind.u64.wrap s).tmod 4) := by rw [t1]; exact t2
  have hz4 : wrap64 ((IntKind.u64.wrap s).tmod 4) < 4 := by rw [t1]; exact t3
  clear t1 t2 t3
  obtain ⟨t1, t2, t3⟩ := tm a 25 (by omega)
  have hi0 : ∃ i : Nat, i < 25 ∧ wrap64 ((IntKind.u64.wrap a).tmod 25) = (i : Int) := ⟨(wrap64 ((IntKind.u64.wrap a).tmod 25)).toNat, by rw [t1]; omega, by rw [t1]; omega⟩
  clear t1 t2 t3
  obtain ⟨i, hi25, hi⟩ := hi0
  obtain ⟨n, hn, hpick⟩ := pick _ hz0 hz4
  obtain ⟨I, hI⟩ : ∃ I : Int, I = (i : Int) := ⟨_, rfl⟩
  obtain ⟨N, hN⟩ : ∃ N : Int, N = (n : Int) := ⟨_, rfl⟩
  rw [← hI] at hi
  rw [← hN] at hpick
  have HII := Lib.hid hI
  have HNN := Lib.hid hN
  clear hI hN
  have HV := Lib.hid hv
  have HN := Lib.hid hn
  have HI := Lib.hid hi25
  have hn8 : n ≤ 8 := by omega
  have hn0 : 0 < n := by omega
  clear hv hn
  go_enter Try.func3, Try.ntmps3
  go_wp2_with fail
  refine (first_calls w).mono ?_
  rintro e w1 ⟨rfl, hB⟩
  have HB := Lib.hid hB
  clear hB
  go_wp2_with fail
  refine (q_new _).mono ?_
  rintro e w2 ⟨F, g, rfl, hM, hF, hB⟩
  have hB0 := below_alloc HB.out (.cells #[.int .i64 1, .int .i64 2, .int .i64 4, .int .i64 8] 3)
  have HB2 := Lib.hid (hB0.trans (hB.mono hB0.size))
  have HF := Lib.hid (fun b hb => Nat.le_trans hB0.size (hF b hb))
  have hA := q_add hM (by omega) 4294967296 32 3 (by omega) (by omega)
  rw [show addQ [] 0 4294967296 32 3 = (0, 0, [rg (L 0)], 1) by decide +kernel] at hA
  have HA := Lib.hid hA
  clear hM hF hB hB0 hA HB hpick
  go_wp2_with fail
  refine HA.out.mono ?_
  rintro e w3 ⟨rfl, F2, hM, hS⟩
  have HF2 := Lib.hid (hS.low HB2.out.size HF.out)
  have HST : Hid (MQ w3 F2 g [rg (L 0)] 1 ∧ Below w.heap.size w w3) := Lib.hid ⟨hM, hS.below HB2.out HF.out⟩
  clear hM hS HB2 HF HA
  go_wp2
  go_loopw [10] (fun u wr => ∃ k : Nat, k ≤ 32 ∧ u = .int .i64 (k : Int) ∧ Hid (MQ wr F2 g [rg (L k)] 1 ∧ Below w.heap.size w wr)) (fun u _ => 32 - (intOf u).toNat)
  case atStart => exact ⟨0, Nat.zero_le _, rfl, HST⟩
  case round =>
    obtain ⟨k, hk, rfl, HK⟩ := hrel
    by_cases hlt : k < 32
    · have e1 : IntKind.u64.wrap (k : Int) = (k : Int) := by rw [IntKind.wrap_u64]; omega
      have e2 : IntKind.u64.wrap (4294967296 + (k : Int)) = 4294967296 + (k : Int) := by rw [IntKind.wrap_u64]; omega
      have e3 : wrap64 (100 + (k : Int)) = 100 + (k : Int) := by unfold wrap64; omega
      have e4 : IntKind.u64.wrap (100 + (k : Int)) = 100 + (k : Int) := by rw [IntKind.wrap_u64]; omega
      have hC := q_store HK.out.1 (4294967296 + k) 1 (100 + k) (by omega) (by omega)
      rw [L_store ⟨k, hlt⟩] at hC
      have HC := Lib.hid hC
      clear hC HST
      go_wp2_with fail
      refine HC.out.mono ?_
      rintro e w4 ⟨rfl, hM, hS⟩
      have HK2 : Hid (MQ w4 F2 g [rg (L (k + 1))] 1 ∧ Below w.heap.size w w4) := Lib.hid ⟨hM, hS.below HK.out.2 HF2.out⟩
      clear hM hS HC HK
      go_wp2
      go_round
      case rel => exact ⟨k + 1, by omega, by go_num, HK2⟩
      case measure => simp [intOf]; omega
    · obtain rfl : k = 32 := Nat.le_antisymm hk (Nat.le_of_not_lt hlt)
      obtain ⟨e1, e2, e3, e7, b1, b2, b3, b4⟩ := in_facts I N i n HII.out HNN.out HI.out hn8 hn0
      have hok : okSize n := by have := HN.out; unfold okSize; omega
      have HOK := Lib.hid hok
      have hC := q_store HK.out.1 (4294967296 + I) N v e7 HV.out
      have hst := store_rg (L 32) i n v (by rw [L_len 32 (by omega)]; exact Nat.lt_of_lt_of_le HI.out (by decide)) hok
      rw [← HII.out, ← HNN.out, L_len 32 (by omega)] at hst
      rw [hst] at hC
      clear HST hst
      by_cases hin : i + n ≤ 32
      · rw [if_pos hin] at hC
        simp only at hC
        have HC := Lib.hid hC
        clear hC hok
        go_wp2_with fail
        refine HC.out.mono ?_
        rintro e w4 ⟨rfl, hM, hS⟩
        have HB4 := Lib.hid (hS.below HK.out.2 HF2.out)
        have HM4 := Lib.hid hM
        obtain ⟨P, hP⟩ : ∃ P, P = (256 : Int) ^ n := ⟨_, rfl⟩
        have hLd := q_load hM (4294967296 + I) N e7
        have hll := load_all v i n HV.out.1 HOK.out hin
        rw [← HII.out, ← HNN.out, ← hP] at hll
        rw [hll] at hLd
        have HL := Lib.hid hLd
        have hin2 : I + N ≤ 32 := by rw [HII.out, HNN.out]; exact Int.ofNat_le.2 hin
        obtain ⟨hm1, hm2⟩ := want_facts HV.out n N P HN.out HNN.out hP
        have HIN := Lib.hid hin
        clear hM hS hLd HC HK hll hP hin
        go_wp2_with fail
        refine HL.out.mono ?_
        rintro e w5 ⟨rfl, hB⟩
        have HL2 : Hid (MQ w5 F2 g [rg (over (L 32) (putB v n) i)] 1 ∧ Below w.heap.size w w5) := Lib.hid ⟨HM4.out.below hB, HB4.out.trans (hB.mono HB4.out.size)⟩
        clear hB HL HM4 HB4
        by_cases hn8' : N < 8
        · obtain ⟨E, m1, m2, m3, m4, m5, m8, m6, m7⟩ := hm2 hn8'
          clear hm1 hm2
          go_wp2
          go_loopw [15] (fun u wr => ∃ (k : Nat) (K : Int), k ≤ 32 ∧ u = .int .i64 K ∧ Hid (K = (k : Int)) ∧ Hid (MQ wr F2 g [rg (over (L 32) (putB v n) i)] 1 ∧ Below w.heap.size w wr)) (fun u _ => 32 - (intOf u).toNat)
          case atStart => exact ⟨0, 0, Nat.zero_le _, rfl, Lib.hid rfl, HL2⟩
          case round =>
            obtain ⟨k, K, hk, rfl, HKK, HK⟩ := hrel
            clear HL2
            by_cases hlt : k < 32
            · have h0 : 0 ≤ K := by rw [HKK.out]; exact Int.natCast_nonneg k
              have h32 : K < 32 := by rw [HKK.out]; exact Int.ofNat_lt.2 hlt
              obtain ⟨e1, e2, e5, e6, e8, e9⟩ := kk_facts K h0 h32
              have hC := q_load HK.out.1 (4294967296 + K) 1 e9
              have hlg := load_got v i n k hlt HIN.out
              rw [← HKK.out] at hlg
              rw [hlg] at hC
              obtain ⟨y0, hy⟩ : ∃ y0, y0 = got v i n k := ⟨_, rfl⟩
              rw [← hy] at hC
              have HY := Lib.hid hy
              have HC := Lib.hid hC
              clear hC hy hlg e9
              by_cases c1 : K ≥ I
              · by_cases c2 : K < I + N
                · obtain ⟨J, E2, f1, f2, f3, f4, f5, f6⟩ := jj_facts K I i k HKK.out HII.out h32 c1
                  have hkn := lt2 K I N k i n HKK.out HII.out HNN.out c2
                  obtain ⟨f7, f8⟩ := e_le f4 f5 (sh_le hkn hn8)
                  have f9 : Go.bits .and .u64 (v / 2 ^ E2.toNat) 255 = y0 := by rw [HY.out, f5]; exact shr_got HV.out i n k f6 hkn hlt hn8
                  have f10 : Go.bits .and .u64 (v / 2 ^ (8 * (K - I)).toNat) 255 = y0 := by rw [HY.out, tn_facts K I i k HKK.out HII.out f6]; exact shr_got HV.out i n k f6 hkn hlt hn8
                  clear f5 f6 hkn
                  go_wp2_with fail
                  refine HC.out.mono ?_
                  rintro e w6 ⟨rfl, hB⟩
                  have HK2 : Hid (MQ w6 F2 g [rg (over (L 32) (putB v n) i)] 1 ∧ Below w.heap.size w w6) := Lib.hid ⟨HK.out.1.below hB, HK.out.2.trans (hB.mono HK.out.2.size)⟩
                  clear hB HC HK
                  go_wp2
                  case roundEnd => exact ⟨⟨k + 1, K + 1, Nat.succ_le_of_lt hlt, rfl, Lib.hid (by rw [HKK.out]; rfl), HK2⟩, kmeas K h0 h32⟩
                · have f4 : y0 = 100 + K := by rw [HY.out]; exact out2 v K I N k i n HKK.out HII.out HNN.out (fun h => c2 h.2)
                  go_wp2_with fail
                  refine HC.out.mono ?_
                  rintro e w6 ⟨rfl, hB⟩
                  have HK2 : Hid (MQ w6 F2 g [rg (over (L 32) (putB v n) i)] 1 ∧ Below w.heap.size w w6) := Lib.hid ⟨HK.out.1.below hB, HK.out.2.trans (hB.mono HK.out.2.size)⟩
                  clear hB HC HK
                  go_wp2
                  case roundEnd => exact ⟨⟨k + 1, K + 1, Nat.succ_le_of_lt hlt, rfl, Lib.hid (by rw [HKK.out]; rfl), HK2⟩, kmeas K h0 h32⟩
              · have f4 : y0 = 100 + K := by rw [HY.out]; exact out2 v K I N k i n HKK.out HII.out HNN.out (fun h => c1 h.1)
                go_wp2_with fail
                refine HC.out.mono ?_
                rintro e w6 ⟨rfl, hB⟩
                have HK2 : Hid (MQ w6 F2 g [rg (over (L 32) (putB v n) i)] 1 ∧ Below w.heap.size w w6) := Lib.hid ⟨HK.out.1.below hB, HK.out.2.trans (hB.mono HK.out.2.size)⟩
                clear hB HC HK
                go_wp2
                case roundEnd => exact ⟨⟨k + 1, K + 1, Nat.succ_le_of_lt hlt, rfl, Lib.hid (by rw [HKK.out]; rfl), HK2⟩, kmeas K h0 h32⟩
            · obtain rfl : k = 32 := Nat.le_antisymm hk (Nat.le_of_not_lt hlt)
              have hK32 : K = 32 := HKK.out
              go_wp2
              go_ret
              exact ⟨rfl, HK.out.2⟩
        · have m1 : v % P = v := by first | exact hm1 hn8' | exact hm1 (Int.not_lt.1 hn8')
          clear hm1 hm2
          go_wp2
          go_loopw [15] (fun u wr => ∃ (k : Nat) (K : Int), k ≤ 32 ∧ u = .int .i64 K ∧ Hid (K = (k : Int)) ∧ Hid (MQ wr F2 g [rg (over (L 32) (putB v n) i)] 1 ∧ Below w.heap.size w wr)) (fun u _ => 32 - (intOf u).toNat)
          case atStart => exact ⟨0, 0, Nat.zero_le _, rfl, Lib.hid rfl, HL2⟩
          case round =>
            obtain ⟨k, K, hk, rfl, HKK, HK⟩ := hrel
            clear HL2
            by_cases hlt : k < 32
            · have h0 : 0 ≤ K := by rw [HKK.out]; exact Int.natCast_nonneg k
              have h32 : K < 32 := by rw [HKK.out]; exact Int.ofNat_lt.2 hlt
              obtain ⟨e1, e2, e5, e6, e8, e9⟩ := kk_facts K h0 h32
              have hC := q_load HK.out.1 (4294967296 + K) 1 e9
              have hlg := load_got v i n k hlt HIN.out
              rw [← HKK.out] at hlg
              rw [hlg] at hC
              obtain ⟨y0, hy⟩ : ∃ y0, y0 = got v i n k := ⟨_, rfl⟩
              rw [← hy] at hC
              have HY := Lib.hid hy
              have HC := Lib.hid hC
              clear hC hy hlg e9
              by_cases c1 : K ≥ I
              · by_cases c2 : K < I + N
                · obtain ⟨J, E2, f1, f2, f3, f4, f5, f6⟩ := jj_facts K I i k HKK.out HII.out h32 c1
                  have hkn := lt2 K I N k i n HKK.out HII.out HNN.out c2
                  obtain ⟨f7, f8⟩ := e_le f4 f5 (sh_le hkn hn8)
                  have f9 : Go.bits .and .u64 (v / 2 ^ E2.toNat) 255 = y0 := by rw [HY.out, f5]; exact shr_got HV.out i n k f6 hkn hlt hn8
                  have f10 : Go.bits .and .u64 (v / 2 ^ (8 * (K - I)).toNat) 255 = y0 := by rw [HY.out, tn_facts K I i k HKK.out HII.out f6]; exact shr_got HV.out i n k f6 hkn hlt hn8
                  clear f5 f6 hkn
                  go_wp2_with fail
                  refine HC.out.mono ?_
                  rintro e w6 ⟨rfl, hB⟩
                  have HK2 : Hid (MQ w6 F2 g [rg (over (L 32) (putB v n) i)] 1 ∧ Below w.heap.size w w6) := Lib.hid ⟨HK.out.1.below hB, HK.out.2.trans (hB.mono HK.out.2.size)⟩
                  clear hB HC HK
                  go_wp2
                  case roundEnd => exact ⟨⟨k + 1, K + 1, Nat.succ_le_of_lt hlt, rfl, Lib.hid (by rw [HKK.out]; rfl), HK2⟩, kmeas K h0 h32⟩
                · have f4 : y0 = 100 + K := by rw [HY.out]; exact out2 v K I N k i n HKK.out HII.out HNN.out (fun h => c2 h.2)
                  go_wp2_with fail
                  refine HC.out.mono ?_
                  rintro e w6 ⟨rfl, hB⟩
                  have HK2 : Hid (MQ w6 F2 g [rg (over (L 32) (putB v n) i)] 1 ∧ Below w.heap.size w w6) := Lib.hid ⟨HK.out.1.below hB, HK.out.2.trans (hB.mono HK.out.2.size)⟩
                  clear hB HC HK
                  go_wp2
                  case roundEnd => exact ⟨⟨k + 1, K + 1, Nat.succ_le_of_lt hlt, rfl, Lib.hid (by rw [HKK.out]; rfl), HK2⟩, kmeas K h0 h32⟩
              · have f4 : y0 = 100 + K := by rw [HY.out]; exact out2 v K I N k i n HKK.out HII.out HNN.out (fun h => c1 h.1)
                go_wp2_with fail
                refine HC.out.mono ?_
                rintro e w6 ⟨rfl, hB⟩
                have HK2 : Hid (MQ w6 F2 g [rg (over (L 32) (putB v n) i)] 1 ∧ Below w.heap.size w w6) := Lib.hid ⟨HK.out.1.below hB, HK.out.2.trans (hB.mono HK.out.2.size)⟩
                clear hB HC HK
                go_wp2
                case roundEnd => exact ⟨⟨k + 1, K + 1, Nat.succ_le_of_lt hlt, rfl, Lib.hid (by rw [HKK.out]; rfl), HK2⟩, kmeas K h0 h32⟩
            · obtain rfl : k = 32 := Nat.le_antisymm hk (Nat.le_of_not_lt hlt)
              have hK32 : K = 32 := HKK.out
              go_wp2
              go_ret
              exact ⟨rfl, HK.out.2⟩
      · rw [if_neg hin] at hC
        simp only at hC
        have HC := Lib.hid hC
        have hin2 : I + N > 32 := by rw [HII.out, HNN.out]; exact Int.ofNat_lt.2 (Nat.lt_of_not_le hin)
        clear hC hok hin
        go_wp2_with fail
        refine HC.out.mono ?_
        rintro e w4 ⟨rfl, hM, hS⟩
        have HB4 := Lib.hid (hS.below HK.out.2 HF2.out)
        clear hM hS HC HK
        go_wp2
        go_ret
        exact ⟨rfl, HB4.out⟩
end Go.Proofs.Ytpjgaacdohiomaa.MemBytes
