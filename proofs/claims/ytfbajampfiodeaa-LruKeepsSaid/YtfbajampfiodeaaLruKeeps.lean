/- lru: the keys touched last are held: walked by hand. -/
import Derived.Test.YtfbajampfiodeaaLruKw
namespace Go.Proofs.Ytfbajampfiodeaa.LruKeeps
open Go.RowKit Go.Proofs.Ytfbajampfiodeaa.PArrayPlays Go.Proofs.YtfbajampfiodeaaW.PrintWords Go.Proofs.YtfbajampfiodeaaW.PrintLast Go.Proofs.YtfbajampfiodeaaW.PrintMore Go.Proofs.Ytfbajampfiodeaa.Mw Go.Proofs.Ytfbajampfiodeaa.Rx Go.Proofs.Ytfbajampfiodeaa.RxOps Go.Proofs.Ytfbajampfiodeaa.RxPut Go.Proofs.Ytfbajampfiodeaa.Fresh Go.Proofs.Ytfbajampfiodeaa.RefAbs Go.Proofs.Ytfbajampfiodeaa.Hm Go.Proofs.Ytfbajampfiodeaa.First08 Go.Proofs.Ytfbajampfiodeaa.Op Go.Proofs.Ytfbajampfiodeaa.LruKp Go.Proofs.Ytfbajampfiodeaa.LruKw
set_option linter.unusedVariables false
set_option linter.unusedSimpArgs false
attribute [local go_sem] max2_int max_two min_two max_three min_three max_four min_four
set_option maxRecDepth 100000 in
theorem law_bad (m : Int) (v : Value) (w : World) (h : ¬ Imp08.SzOk 1 m) :
    Calls Try.prog 8 #[.int .i64 m, v] w fun e w' => e = .returned (.bool true) ∧ Below w.heap.size w w' := by
  have HH := Lib.hid h
  have hm : m < 1 ∨ m > 64 := by unfold Imp08.SzOk at h; omega
  clear h
  rcases hm with hm | hm
  all_goals
    go_enter Try.func8, Try.ntmps8
    go_wp2_with fail
    refine (first_calls w).mono ?_
    rintro e w1 ⟨rfl, hB⟩
    have HB := Lib.hid hB
    clear hB
    go_wp2_with fail
    refine ((Imp08.new_bad 1 m HH.out).1 _).mono ?_
    rintro e w2 ⟨rfl, rfl⟩
    go_wp2
    go_ret
    exact ⟨by simp [hm] <;> omega, HB.out⟩
set_option maxRecDepth 100000 in
set_option maxHeartbeats 16000000 in
theorem law_ok (m : Nat) (A : Option Addr) (key : List Int) (c : Nat) (w : World) (h1 : 1 ≤ m) (h2 : m ≤ 64) (hk : Kd.C (Kd.int .u8) w A key.length key) (hc : key.length ≤ c) (hcm : c ≤ 9223372036854775807) (hkb : ∀ x ∈ key, 0 ≤ x ∧ x ≤ 255) :
    Calls Try.prog 8 #[.int .i64 (m : Int), .slice A key.length c] w fun e w' => e = .returned (.bool true) ∧ Below w.heap.size w w' := by
  have HK := Lib.hid hk
  have HKB := Lib.hid hkb
  clear hk hkb
  obtain ⟨nn, hnn⟩ : ∃ nn : Nat, nn = key.length := ⟨_, rfl⟩
  have HN := Lib.hid hnn
  rw [← hnn] at hc ⊢
  clear hnn
  go_enter Try.func8, Try.ntmps8
  go_wp2_with fail
  refine (first_calls w).mono ?_
  rintro e w1 ⟨rfl, hB⟩
  have HB := Lib.hid hB
  clear hB
  go_wp2_with fail
  refine ((Imp08.new_both 1 m ⟨by decide, by decide, by omega, by omega⟩).1 w1).mono ?_
  rintro e w2 ⟨F, g, rfl, hI, hF, hB2⟩
  have HS : Hid (∃ F st, Ks w w2 F g key 0 m st) := Lib.hid ⟨F, Imp08.st0 m, hI, Kp.start key m, by show (List.replicate (m : Int).toNat (none : Option (List Int))).length = m; simp, fun b hb => Nat.le_trans HB.out.size (hF b hb), HB.out.trans (hB2.mono HB.out.size)⟩
  clear hI hF hB2 HB
  go_wp2
  go_loopw [41] (fun i wr => ∃ k : Nat, k ≤ nn ∧ k ≤ 100 ∧ i = .int .i64 (k : Int) ∧ Hid (∃ F st, Ks w wr F g key k m st)) (fun i _ => nn - (intOf i).toNat)
  case atStart => exact ⟨0, Nat.zero_le _, by omega, rfl, HS⟩
  case round =>
    clear HS
    obtain ⟨k, hk, hk100, rfl, HS⟩ := hrel
    obtain ⟨F, st, hT⟩ := HS.out
    have HT := Lib.hid hT
    clear hT HS
    by_cases hlt : k < nn ∧ k < 100
    · obtain ⟨hlt, hlt8⟩ := hlt
      obtain ⟨ad, x, rfl, g0, hx⟩ := byte_is HK.out k (by rw [← HN.out]; exact hlt)
      have g0' := old HT.out.bel g0
      have n100 : ¬ ((k : Int) ≥ 100) := by omega
      have HX := Lib.hid hx
      have HCK : Hid (Kd.C (Kd.int .u8) (wr.alloc (.cells #[.int .u8 x] 5)) (some ⟨wr.heap.size, 0, none⟩) 1 [x]) := Lib.hid (rowC (Row.of (heap_alloc_new wr _) rfl) (by simp))
      have HIa := Lib.hid (HT.out.x.keep (w' := wr.alloc (.cells #[.int .u8 x] 5)) (fun b hb => Below.heap_alloc wr _ b (HT.out.x.lt b hb)) (by simp))
      have HA : Hid (∀ ad, (some ⟨wr.heap.size, 0, none⟩ : Option Addr) = some ad → 0 < [x].length → ¬ F ad.block) := Lib.hid (fun ad e _ h => by cases e; exact Nat.lt_irrefl _ (HT.out.x.lt _ h))
      have HBY : Hid (∀ y ∈ [x], 0 ≤ y ∧ y ≤ 255) := Lib.hid (fun y hy => by obtain rfl := List.mem_singleton.1 hy; exact HKB.out y (List.mem_of_getElem? hx))
      clear g0 hx
      by_cases h3 : k % 3 = 2
      · have t0 : (k : Int).tmod 3 = 2 := by rw [Int.tmod_eq_emod_of_nonneg (by omega)]; omega
        have t1 : (k : Int) % 3 = 2 := by omega
        have hc2 := Imp08.imp_find HIa.out (some ⟨wr.heap.size, 0, none⟩) 1 [x] HCK.out (Nat.le_refl _) HBY.out HA.out
        have HC := Lib.hid hc2
        have H3 := Lib.hid h3
        clear hc2 h3
        go_wp2_with fail
        refine HC.out.mono ?_
        rintro e w4 ⟨rfl, F4, h4, s4⟩
        have HS4 := Lib.hid (HT.out.find H3.out x _ h4 s4)
        clear h4 s4 HC HIa HCK HA
        go_wp2
        go_roundw
        case rel => exact ⟨k + 1, by omega, by omega, by go_num, HS4⟩
        case measure => simp [intOf] <;> omega
      · have t0 : ¬ (k : Int).tmod 3 = 2 := by rw [Int.tmod_eq_emod_of_nonneg (by omega)]; omega
        have t1 : ¬ (k : Int) % 3 = 2 := by omega
        have hc2 := Imp08.imp_put HIa.out (by omega) (some ⟨wr.heap.size, 0, none⟩) 1 [x] 0 HCK.out (Nat.le_refl _) HBY.out HA.out
        rw [show (put Imp08.kd 1 st [x] 0).1.2.2 = 0 from (put0 st x (by rw [HT.out.ln]; omega)).1] at hc2
        have HC := Lib.hid hc2
        have H3 := Lib.hid h3
        clear hc2 h3
        go_wp2_with fail
        refine HC.out.mono ?_
        rintro e w4 ⟨rfl, F4, h4, s4⟩
        have HS4 := Lib.hid (HT.out.put (by omega) H3.out HX.out _ h4 s4)
        clear h4 s4 HC HIa HCK HA
        go_wp2
        go_roundw
        case rel => exact ⟨k + 1, by omega, by omega, by go_num, HS4⟩
        case measure => simp [intOf] <;> omega
    · have HEND : Hid (k = nn ∨ (k = 100 ∧ k < nn)) := Lib.hid (by omega)
      have hmin := min100 nn k (by omega)
      have HRW := Lib.hid HT.out.rows
      have key0 : Hid (Calls Try.prog 41 #[.pointer (some ⟨g, 0, none⟩)] wr fun e w' => ∃ v, e = .returned v ∧ FreshRows w' wr.heap.size v (keys st) ∧ Below wr.heap.size wr w') := Lib.hid (Imp08.imp_keys HT.out.x)
      have hstep : k = nn ∨ (k = 100 ∧ k < nn) := HEND.out
      rcases hstep with h | ⟨h, hl⟩
      · have hnl : ¬ ((k : Int) < (nn : Int)) := by omega
        clear h hlt
        go_wp2_with fail
        refine key0.out.mono ?_
        rintro e w7 ⟨v, rfl, hF7, hB7⟩
        obtain ⟨A7, c7, rfl, hc7⟩ := rows_slice hF7
        obtain ⟨q, hq⟩ : ∃ q, q = (keys st).length := ⟨_, rfl⟩
        rw [← hq] at hF7 hc7 ⊢
        have HQ := Lib.hid hq
        have HF7 := Lib.hid hF7
        have HB7 := Lib.hid (HT.out.bel.trans (hB7.mono HT.out.bel.size))
        have HL0 := Lib.hid (LastOk.start key k)
        have HO0 := Lib.hid (World.ownsRow_nil w7 w7.heap.size 5 1)
        have HBB := Lib.hid (Below.refl w7.heap.size w7)
        clear hq hF7 hB7
        go_wp2
        go_loopw [13, 15] (fun V i w2 => ∃ (p : Nat) (z : Int) (last : List Int), p ≤ k ∧ i = .int .i64 z ∧ Hid (z = (p : Int) - 1) ∧ Hid (w2.ownsRow w7.heap.size 5 1 V last.length (last.map (Value.int .u8))) ∧ Hid (LastOk key k p last) ∧ Hid (Below w7.heap.size w7 w2)) (fun _ i _ => (intOf i + 1).toNat)
        case atStart => exact ⟨k, _, [], Nat.le_refl _, rfl, Lib.hid rfl, HO0, HL0, HBB⟩
        case round =>
          clear HO0 HL0 HBB
          obtain ⟨p, z, last, hp, rfl, HZ, HOW, HLO, HBB⟩ := hrel
          obtain ⟨A8, c8, rfl, hc8, hC8⟩ := own_C HOW.out
          have HC8 := Lib.hid hC8
          have HBW := Lib.hid (HB7.out.trans (HBB.out.mono HB7.out.size))
          obtain ⟨lq, hlq⟩ : ∃ lq, lq = last.length := ⟨_, rfl⟩
          have HLQ := Lib.hid hlq
          have hl100 : lq ≤ 100 := by rw [hlq]; have := HLO.out.ln; omega
          rw [← hlq] at hc8 ⊢
          clear hlq hC8
          cases p with
          | zero =>
            obtain rfl : z = -1 := by have := HZ.out; omega
            have HLEN : Hid (lq < m → q = lq) := Lib.hid (fun h => by rw [HQ.out, HLQ.out]; exact HT.out.count HLO.out (by rw [← HLQ.out]; exact h))
            by_cases hlm : lq < m
            · obtain rfl : q = lq := HLEN.out hlm
              have hlm2 : (q : Int) < (m : Int) := by omega
              clear HLEN
              have HFR := Lib.hid (HF7.out.below HBB.out)
              have HQM := Lib.hid (show q ≤ m ∧ ∀ i, i < q → ∃ y, (keys st)[i]? = some [y] from ⟨by rw [HQ.out]; exact HRW.out.1, fun i hi => by
                have hi2 : i < (keys st).length := by rw [← HQ.out]; exact hi
                obtain ⟨y, e⟩ := HRW.out.2 _ (List.getElem_mem hi2)
                exact ⟨y, by rw [List.getElem?_eq_getElem hi2, e]⟩⟩)
              have hq64 : q ≤ 64 := by have := HQM.out.1; omega
              go_wp2
              go_loop [114] (fun i => ∃ k3 : Nat, k3 ≤ q ∧ i = .int .i64 (k3 : Int)) (fun i => q - (intOf i).toNat)
              case atStart => exact ⟨0, Nat.zero_le _, rfl⟩
              case round =>
                obtain ⟨k3, hk3, rfl⟩ := hrel
                by_cases hl3 : k3 < q
                · obtain ⟨y, hy⟩ := HQM.out.2 k3 hl3
                  obtain ⟨b, c9, b1, c1, e9, g9, hc9, _⟩ := fresh_at HFR.out k3 y hy
                  obtain rfl := sl_addr e9
                  clear e9
                  clear hy
                  go_wp2
                  go_round
                  case rel => exact ⟨k3 + 1, by omega, by go_num⟩
                  case measure => simp [intOf] <;> omega
                · by_cases hcond : 0 < k ∧ (k - 1) % 3 ≠ 2
                  · obtain ⟨hk0, hk2⟩ := hcond
                    obtain ⟨k', hk'⟩ : ∃ k', k = k' + 1 := ⟨k - 1, by omega⟩
                    have hk3' : k' % 3 ≠ 2 := by omega
                    obtain ⟨ad3, z, e3, g3, hz⟩ := byte_is HK.out k' (by rw [← HN.out]; omega)
                    cases e3
                    have g3' := old HBW.out g3
                    have HJ : Hid (∃ jj : Nat, (keys st)[jj]? = some [z]) := Lib.hid (List.mem_iff_getElem?.1 (mem_keys.2 (HT.out.kp.last k' hk' hk3' z hz)))
                    have hqm : (q : Int) ≤ (m : Int) := by have := HQM.out.1; omega
                    have t0 : ¬ ((k : Int) - 1).tmod 3 = 2 := by rw [Int.tmod_eq_emod_of_nonneg (by omega)]; omega
                    have t1 : ¬ ((k : Int) - 1) % 3 = 2 := by omega
                    have t2 : (k : Int) > 0 := by omega
                    have t3 : (k : Int) - 1 = (k' : Int) := by omega
                    have HBQ := Lib.hid HBW.out
                    obtain ⟨W, hW⟩ : ∃ W, W = wr := ⟨_, rfl⟩
                    subst hW
                    clear hk2 hk3' hz g3
                    go_wp2
                    go_loopw [17, 134] (fun v i w2 => ∃ (p : Nat) (fd : Bool), p ≤ q ∧ i = .int .i64 (p : Int) ∧ v = .bool fd ∧ Hid (fd = true ∨ ∀ j, j < p → (keys st)[j]? ≠ some [z]) ∧ Hid (∃ n, w2 = W.drewN n)) (fun _ i _ => q - (intOf i).toNat)
                    case atStart => exact ⟨0, false, Nat.zero_le _, rfl, rfl, Lib.hid (.inr fun j h => absurd h (by omega)), Lib.hid ⟨0, rfl⟩⟩
                    case round =>
                      obtain ⟨p, fd, hp, rfl, rfl, HFD, HWN⟩ := hrel
                      obtain ⟨nd, rfl⟩ := HWN.out
                      by_cases hlp : p < q
                      · obtain ⟨y, hy⟩ := HQM.out.2 p hlp
                        obtain ⟨b, c9, b1, c1, e9, g9, hc9, g10⟩ := fresh_at HFR.out p y hy
                        obtain rfl := sl_addr e9
                        have q9 : (W.drewN nd).cell? ⟨b, p, none⟩ = some (.slice (some ⟨b1, 0, none⟩) 1 c1) := g9
                        have q10 : (W.drewN nd).cell? ⟨b1, 0, none⟩ = some (.int .u8 y) := g10
                        have q3 := drewN_cell nd g3'
                        have HY := Lib.hid hy
                        clear e9 hy
                        cases fd with
                        | true =>
                          go_wp2
                          go_region
                          go_wp2
                          go_roundw
                          case rel => exact ⟨p + 1, true, by omega, by go_num, rfl, Lib.hid (.inl rfl), Lib.hid ⟨nd + 1, rfl⟩⟩
                          case measure => simp [intOf] <;> omega
                        | false =>
                          by_cases hyz : y = z
                          · subst hyz
                            go_wp2
                            go_region
                            go_wp2
                            go_roundw
                            case rel => exact ⟨p + 1, true, by omega, by go_num, by simp, Lib.hid (.inl rfl), Lib.hid ⟨nd + 1, rfl⟩⟩
                            case measure => simp [intOf] <;> omega
                          · have u0 : (y == z) = false := by simpa using hyz
                            have HFD2 : Hid (∀ j, j < p + 1 → (keys st)[j]? ≠ some [z]) := Lib.hid fun j hj e => by
                              by_cases e2 : j = p
                              · subst e2
                                rw [HY.out] at e
                                cases e
                                exact hyz rfl
                              · exact (HFD.out.resolve_left (by decide)) j (by omega) e
                            go_wp2
                            go_region
                            go_wp2
                            go_roundw
                            case rel => exact ⟨p + 1, false, by omega, by go_num, by simp, Lib.hid (.inr HFD2.out), Lib.hid ⟨nd + 1, rfl⟩⟩
                            case measure => simp [intOf] <;> omega
                      · have hfd : fd = true := HFD.out.resolve_right (fun h => by
                          obtain ⟨jj, hjj⟩ := HJ.out
                          exact h jj (by have := (List.getElem?_eq_some_iff.1 hjj).1; have := HQ.out; omega) hjj)
                        subst hfd
                        go_wp2
                        go_ret
                        exact ⟨by first | (simp; done) | (simp; omega), pw_below_drewN HBQ.out nd⟩
                  · have hqm : (q : Int) ≤ (m : Int) := by have := HQM.out.1; omega
                    rcases (show k = 0 ∨ (0 < k ∧ (k - 1) % 3 = 2) from by omega) with hk0 | ⟨hk0, hk2⟩
                    · subst hk0
                      go_wp2
                      go_ret
                      exact ⟨by first | (simp; done) | (simp; omega), HBW.out⟩
                    · have t0 : ((k : Int) - 1).tmod 3 = 2 := by rw [Int.tmod_eq_emod_of_nonneg (by omega)]; omega
                      have t1 : ((k : Int) - 1) % 3 = 2 := by omega
                      have t2 : (k : Int) > 0 := by omega
                      clear hcond hk2
                      go_wp2
                      go_ret
                      exact ⟨by first | (simp; done) | (simp; omega), HBW.out⟩
            · have hlm2 : ¬ (lq : Int) < (m : Int) := by omega
              clear HLEN
              have HFR := Lib.hid (HF7.out.below HBB.out)
              have HQM := Lib.hid (show q ≤ m ∧ ∀ i, i < q → ∃ y, (keys st)[i]? = some [y] from ⟨by rw [HQ.out]; exact HRW.out.1, fun i hi => by
                have hi2 : i < (keys st).length := by rw [← HQ.out]; exact hi
                obtain ⟨y, e⟩ := HRW.out.2 _ (List.getElem_mem hi2)
                exact ⟨y, by rw [List.getElem?_eq_getElem hi2, e]⟩⟩)
              have hq64 : q ≤ 64 := by have := HQM.out.1; omega
              go_wp2
              go_loop [114] (fun i => ∃ k3 : Nat, k3 ≤ q ∧ i = .int .i64 (k3 : Int)) (fun i => q - (intOf i).toNat)
              case atStart => exact ⟨0, Nat.zero_le _, rfl⟩
              case round =>
                obtain ⟨k3, hk3, rfl⟩ := hrel
                by_cases hl3 : k3 < q
                · obtain ⟨y, hy⟩ := HQM.out.2 k3 hl3
                  obtain ⟨b, c9, b1, c1, e9, g9, hc9, _⟩ := fresh_at HFR.out k3 y hy
                  obtain rfl := sl_addr e9
                  clear e9
                  clear hy
                  go_wp2
                  go_round
                  case rel => exact ⟨k3 + 1, by omega, by go_num⟩
                  case measure => simp [intOf] <;> omega
                · by_cases hcond : 0 < k ∧ (k - 1) % 3 ≠ 2
                  · obtain ⟨hk0, hk2⟩ := hcond
                    obtain ⟨k', hk'⟩ : ∃ k', k = k' + 1 := ⟨k - 1, by omega⟩
                    have hk3' : k' % 3 ≠ 2 := by omega
                    obtain ⟨ad3, z, e3, g3, hz⟩ := byte_is HK.out k' (by rw [← HN.out]; omega)
                    cases e3
                    have g3' := old HBW.out g3
                    have HJ : Hid (∃ jj : Nat, (keys st)[jj]? = some [z]) := Lib.hid (List.mem_iff_getElem?.1 (mem_keys.2 (HT.out.kp.last k' hk' hk3' z hz)))
                    have hqm : (q : Int) ≤ (m : Int) := by have := HQM.out.1; omega
                    have t0 : ¬ ((k : Int) - 1).tmod 3 = 2 := by rw [Int.tmod_eq_emod_of_nonneg (by omega)]; omega
                    have t1 : ¬ ((k : Int) - 1) % 3 = 2 := by omega
                    have t2 : (k : Int) > 0 := by omega
                    have t3 : (k : Int) - 1 = (k' : Int) := by omega
                    have HBQ := Lib.hid HBW.out
                    obtain ⟨W, hW⟩ : ∃ W, W = wr := ⟨_, rfl⟩
                    subst hW
                    clear hk2 hk3' hz g3
                    go_wp2
                    go_loopw [17, 134] (fun v i w2 => ∃ (p : Nat) (fd : Bool), p ≤ q ∧ i = .int .i64 (p : Int) ∧ v = .bool fd ∧ Hid (fd = true ∨ ∀ j, j < p → (keys st)[j]? ≠ some [z]) ∧ Hid (∃ n, w2 = W.drewN n)) (fun _ i _ => q - (intOf i).toNat)
                    case atStart => exact ⟨0, false, Nat.zero_le _, rfl, rfl, Lib.hid (.inr fun j h => absurd h (by omega)), Lib.hid ⟨0, rfl⟩⟩
                    case round =>
                      obtain ⟨p, fd, hp, rfl, rfl, HFD, HWN⟩ := hrel
                      obtain ⟨nd, rfl⟩ := HWN.out
                      by_cases hlp : p < q
                      · obtain ⟨y, hy⟩ := HQM.out.2 p hlp
                        obtain ⟨b, c9, b1, c1, e9, g9, hc9, g10⟩ := fresh_at HFR.out p y hy
                        obtain rfl := sl_addr e9
                        have q9 : (W.drewN nd).cell? ⟨b, p, none⟩ = some (.slice (some ⟨b1, 0, none⟩) 1 c1) := g9
                        have q10 : (W.drewN nd).cell? ⟨b1, 0, none⟩ = some (.int .u8 y) := g10
                        have q3 := drewN_cell nd g3'
                        have HY := Lib.hid hy
                        clear e9 hy
                        cases fd with
                        | true =>
                          go_wp2
                          go_region
                          go_wp2
                          go_roundw
                          case rel => exact ⟨p + 1, true, by omega, by go_num, rfl, Lib.hid (.inl rfl), Lib.hid ⟨nd + 1, rfl⟩⟩
                          case measure => simp [intOf] <;> omega
                        | false =>
                          by_cases hyz : y = z
                          · subst hyz
                            go_wp2
                            go_region
                            go_wp2
                            go_roundw
                            case rel => exact ⟨p + 1, true, by omega, by go_num, by simp, Lib.hid (.inl rfl), Lib.hid ⟨nd + 1, rfl⟩⟩
                            case measure => simp [intOf] <;> omega
                          · have u0 : (y == z) = false := by simpa using hyz
                            have HFD2 : Hid (∀ j, j < p + 1 → (keys st)[j]? ≠ some [z]) := Lib.hid fun j hj e => by
                              by_cases e2 : j = p
                              · subst e2
                                rw [HY.out] at e
                                cases e
                                exact hyz rfl
                              · exact (HFD.out.resolve_left (by decide)) j (by omega) e
                            go_wp2
                            go_region
                            go_wp2
                            go_roundw
                            case rel => exact ⟨p + 1, false, by omega, by go_num, by simp, Lib.hid (.inr HFD2.out), Lib.hid ⟨nd + 1, rfl⟩⟩
                            case measure => simp [intOf] <;> omega
                      · have hfd : fd = true := HFD.out.resolve_right (fun h => by
                          obtain ⟨jj, hjj⟩ := HJ.out
                          exact h jj (by have := (List.getElem?_eq_some_iff.1 hjj).1; have := HQ.out; omega) hjj)
                        subst hfd
                        go_wp2
                        go_ret
                        exact ⟨by first | (simp; done) | (simp; omega), pw_below_drewN HBQ.out nd⟩
                  · have hqm : (q : Int) ≤ (m : Int) := by have := HQM.out.1; omega
                    rcases (show k = 0 ∨ (0 < k ∧ (k - 1) % 3 = 2) from by omega) with hk0 | ⟨hk0, hk2⟩
                    · subst hk0
                      go_wp2
                      go_ret
                      exact ⟨by first | (simp; done) | (simp; omega), HBW.out⟩
                    · have t0 : ((k : Int) - 1).tmod 3 = 2 := by rw [Int.tmod_eq_emod_of_nonneg (by omega)]; omega
                      have t1 : ((k : Int) - 1) % 3 = 2 := by omega
                      have t2 : (k : Int) > 0 := by omega
                      clear hcond hk2
                      go_wp2
                      go_ret
                      exact ⟨by first | (simp; done) | (simp; omega), HBW.out⟩
          | succ j =>
            obtain rfl : z = (j : Int) := by have := HZ.out; omega
            by_cases hlm : lq < m
            · obtain ⟨ad2, x, e2, g2, hx⟩ := byte_is HK.out j (by rw [← HN.out]; omega)
              cases e2
              have g2' := old HBW.out g2
              have HX := Lib.hid hx
              have hj0 : (j : Int) ≥ 0 := by omega
              have hlm2 : (lq : Int) < (m : Int) := by omega
              clear g2 hx
              by_cases h3 : j % 3 = 2
              · have t0 : (j : Int).tmod 3 = 2 := by rw [Int.tmod_eq_emod_of_nonneg (by omega)]; omega
                have t1 : (j : Int) % 3 = 2 := by omega
                have HL2 := Lib.hid (HLO.out.skip (.inl h3))
                have HOW2 : Hid (wr.ownsRow w7.heap.size 5 1 (.slice A8 lq c8) last.length (last.map (Value.int .u8))) := Lib.hid (by rw [HLQ.out]; exact HOW.out)
                clear h3
                go_wp2
                go_roundw
                case rel => exact ⟨j, _, last, by omega, rfl, Lib.hid rfl, HOW2, HL2, HBB⟩
                case measure => simp [intOf] <;> omega
              · have t0 : ¬ (j : Int).tmod 3 = 2 := by rw [Int.tmod_eq_emod_of_nonneg (by omega)]; omega
                have t1 : ¬ (j : Int) % 3 = 2 := by omega
                have H3 := Lib.hid h3
                have hhas := has_ wr A8 c8 last x HC8.out
                rw [← HLQ.out] at hhas
                have HHAS := Lib.hid hhas
                have HOW2 : Hid (wr.ownsRow w7.heap.size 5 1 (.slice A8 lq c8) last.length (last.map (Value.int .u8))) := Lib.hid (by rw [HLQ.out]; exact HOW.out)
                clear h3 hhas
                go_wp2_with fail
                refine HHAS.out.mono ?_
                rintro e w9 ⟨rfl, rfl⟩
                by_cases hm : x ∈ last
                · rw [decide_eq_true hm]
                  have HL2 := Lib.hid (HLO.out.skip (.inr (fun y hy => by rw [HX.out] at hy; cases hy; exact hm)))
                  clear hm
                  go_wp2
                  go_roundw
                  case rel => exact ⟨j, _, last, by omega, rfl, Lib.hid rfl, HOW2, HL2, HBB⟩
                  case measure => simp [intOf] <;> omega
                · rw [decide_eq_false hm]
                  have HL2 := Lib.hid (HLO.out.add H3.out HX.out hm)
                  have HOW3 : Hid (wr.ownsRow w7.heap.size 5 1 (.slice A8 lq c8) lq (last.map (Value.int .u8))) := Lib.hid (by have := HOW2.out; rw [← HLQ.out] at this; exact this)
                  clear hm
                  go_wp2_with (first
                    | ((with_reducible refine gate_builtin (b := .append) (xs := #[.tmp 94, .tmp 99]) rfl ?_)
                       at_builtin
                       refine print_append_cells (w0 := w7) w7.heap.size rfl (.tmp 94) (.tmp 99) 32 5 (.int .u8 0) 1 1 rfl Try.underlying32 LruKw.info5 rfl (by decide) (by decide) (.slice A8 lq c8) lq (last.map (Value.int .u8)) [.int .u8 x] rfl rfl rfl (by simp; rfl) HOW3.out HBB.out HBB.out.size (by omega) ?_
                       intro V2 w9 ho hb hg hV
                       have e1 : (last ++ [x]).length = lq + 1 := by rw [HLQ.out]; simp
                       have e2 : (last ++ [x]).map (Value.int .u8) = last.map (Value.int .u8) ++ [.int .u8 x] := by simp
                       have HOW4 : Hid (w9.ownsRow w7.heap.size 5 1 V2 (last ++ [x]).length ((last ++ [x]).map (Value.int .u8))) := Lib.hid (by rw [e1, e2]; exact ho)
                       have HBB2 := Lib.hid hb
                       clear ho hb hg hV e1 e2)
                    | fail)
                  go_roundw
                  case rel => exact ⟨j, _, _, by omega, rfl, Lib.hid rfl, HOW4, HL2, HBB2⟩
                  case measure => simp [intOf] <;> omega
            · have hlm2 : ¬ (lq : Int) < (m : Int) := by omega
              have hj0 : (j : Int) ≥ 0 := by omega
              have HLEN : Hid (lq < m → q = lq) := Lib.hid (fun h => absurd h hlm)
              clear HLEN
              have HFR := Lib.hid (HF7.out.below HBB.out)
              have HQM := Lib.hid (show q ≤ m ∧ ∀ i, i < q → ∃ y, (keys st)[i]? = some [y] from ⟨by rw [HQ.out]; exact HRW.out.1, fun i hi => by
                have hi2 : i < (keys st).length := by rw [← HQ.out]; exact hi
                obtain ⟨y, e⟩ := HRW.out.2 _ (List.getElem_mem hi2)
                exact ⟨y, by rw [List.getElem?_eq_getElem hi2, e]⟩⟩)
              have hq64 : q ≤ 64 := by have := HQM.out.1; omega
              go_wp2
              go_loop [114] (fun i => ∃ k3 : Nat, k3 ≤ q ∧ i = .int .i64 (k3 : Int)) (fun i => q - (intOf i).toNat)
              case atStart => exact ⟨0, Nat.zero_le _, rfl⟩
              case round =>
                obtain ⟨k3, hk3, rfl⟩ := hrel
                by_cases hl3 : k3 < q
                · obtain ⟨y, hy⟩ := HQM.out.2 k3 hl3
                  obtain ⟨b, c9, b1, c1, e9, g9, hc9, _⟩ := fresh_at HFR.out k3 y hy
                  obtain rfl := sl_addr e9
                  clear e9
                  clear hy
                  go_wp2
                  go_round
                  case rel => exact ⟨k3 + 1, by omega, by go_num⟩
                  case measure => simp [intOf] <;> omega
                · by_cases hcond : 0 < k ∧ (k - 1) % 3 ≠ 2
                  · obtain ⟨hk0, hk2⟩ := hcond
                    obtain ⟨k', hk'⟩ : ∃ k', k = k' + 1 := ⟨k - 1, by omega⟩
                    have hk3' : k' % 3 ≠ 2 := by omega
                    obtain ⟨ad3, z, e3, g3, hz⟩ := byte_is HK.out k' (by rw [← HN.out]; omega)
                    cases e3
                    have g3' := old HBW.out g3
                    have HJ : Hid (∃ jj : Nat, (keys st)[jj]? = some [z]) := Lib.hid (List.mem_iff_getElem?.1 (mem_keys.2 (HT.out.kp.last k' hk' hk3' z hz)))
                    have hqm : (q : Int) ≤ (m : Int) := by have := HQM.out.1; omega
                    have t0 : ¬ ((k : Int) - 1).tmod 3 = 2 := by rw [Int.tmod_eq_emod_of_nonneg (by omega)]; omega
                    have t1 : ¬ ((k : Int) - 1) % 3 = 2 := by omega
                    have t2 : (k : Int) > 0 := by omega
                    have t3 : (k : Int) - 1 = (k' : Int) := by omega
                    have HBQ := Lib.hid HBW.out
                    obtain ⟨W, hW⟩ : ∃ W, W = wr := ⟨_, rfl⟩
                    subst hW
                    clear hk2 hk3' hz g3
                    go_wp2
                    go_loopw [17, 134] (fun v i w2 => ∃ (p : Nat) (fd : Bool), p ≤ q ∧ i = .int .i64 (p : Int) ∧ v = .bool fd ∧ Hid (fd = true ∨ ∀ j, j < p → (keys st)[j]? ≠ some [z]) ∧ Hid (∃ n, w2 = W.drewN n)) (fun _ i _ => q - (intOf i).toNat)
                    case atStart => exact ⟨0, false, Nat.zero_le _, rfl, rfl, Lib.hid (.inr fun j h => absurd h (by omega)), Lib.hid ⟨0, rfl⟩⟩
                    case round =>
                      obtain ⟨p, fd, hp, rfl, rfl, HFD, HWN⟩ := hrel
                      obtain ⟨nd, rfl⟩ := HWN.out
                      by_cases hlp : p < q
                      · obtain ⟨y, hy⟩ := HQM.out.2 p hlp
                        obtain ⟨b, c9, b1, c1, e9, g9, hc9, g10⟩ := fresh_at HFR.out p y hy
                        obtain rfl := sl_addr e9
                        have q9 : (W.drewN nd).cell? ⟨b, p, none⟩ = some (.slice (some ⟨b1, 0, none⟩) 1 c1) := g9
                        have q10 : (W.drewN nd).cell? ⟨b1, 0, none⟩ = some (.int .u8 y) := g10
                        have q3 := drewN_cell nd g3'
                        have HY := Lib.hid hy
                        clear e9 hy
                        cases fd with
                        | true =>
                          go_wp2
                          go_region
                          go_wp2
                          go_roundw
                          case rel => exact ⟨p + 1, true, by omega, by go_num, rfl, Lib.hid (.inl rfl), Lib.hid ⟨nd + 1, rfl⟩⟩
                          case measure => simp [intOf] <;> omega
                        | false =>
                          by_cases hyz : y = z
                          · subst hyz
                            go_wp2
                            go_region
                            go_wp2
                            go_roundw
                            case rel => exact ⟨p + 1, true, by omega, by go_num, by simp, Lib.hid (.inl rfl), Lib.hid ⟨nd + 1, rfl⟩⟩
                            case measure => simp [intOf] <;> omega
                          · have u0 : (y == z) = false := by simpa using hyz
                            have HFD2 : Hid (∀ j, j < p + 1 → (keys st)[j]? ≠ some [z]) := Lib.hid fun j hj e => by
                              by_cases e2 : j = p
                              · subst e2
                                rw [HY.out] at e
                                cases e
                                exact hyz rfl
                              · exact (HFD.out.resolve_left (by decide)) j (by omega) e
                            go_wp2
                            go_region
                            go_wp2
                            go_roundw
                            case rel => exact ⟨p + 1, false, by omega, by go_num, by simp, Lib.hid (.inr HFD2.out), Lib.hid ⟨nd + 1, rfl⟩⟩
                            case measure => simp [intOf] <;> omega
                      · have hfd : fd = true := HFD.out.resolve_right (fun h => by
                          obtain ⟨jj, hjj⟩ := HJ.out
                          exact h jj (by have := (List.getElem?_eq_some_iff.1 hjj).1; have := HQ.out; omega) hjj)
                        subst hfd
                        go_wp2
                        go_ret
                        exact ⟨by first | (simp; done) | (simp; omega), pw_below_drewN HBQ.out nd⟩
                  · have hqm : (q : Int) ≤ (m : Int) := by have := HQM.out.1; omega
                    rcases (show k = 0 ∨ (0 < k ∧ (k - 1) % 3 = 2) from by omega) with hk0 | ⟨hk0, hk2⟩
                    · subst hk0
                      go_wp2
                      go_ret
                      exact ⟨by first | (simp; done) | (simp; omega), HBW.out⟩
                    · have t0 : ((k : Int) - 1).tmod 3 = 2 := by rw [Int.tmod_eq_emod_of_nonneg (by omega)]; omega
                      have t1 : ((k : Int) - 1) % 3 = 2 := by omega
                      have t2 : (k : Int) > 0 := by omega
                      clear hcond hk2
                      go_wp2
                      go_ret
                      exact ⟨by first | (simp; done) | (simp; omega), HBW.out⟩
      · obtain ⟨ad, x, rfl, g0, hx⟩ := byte_is HK.out k (by rw [← HN.out]; exact hl)
        have g0' := old HT.out.bel g0
        have n100 : (k : Int) ≥ 100 := by omega
        clear h hx g0 hlt
        go_wp2_with fail
        refine key0.out.mono ?_
        rintro e w7 ⟨v, rfl, hF7, hB7⟩
        obtain ⟨A7, c7, rfl, hc7⟩ := rows_slice hF7
        obtain ⟨q, hq⟩ : ∃ q, q = (keys st).length := ⟨_, rfl⟩
        rw [← hq] at hF7 hc7 ⊢
        have HQ := Lib.hid hq
        have HF7 := Lib.hid hF7
        have HB7 := Lib.hid (HT.out.bel.trans (hB7.mono HT.out.bel.size))
        have HL0 := Lib.hid (LastOk.start key k)
        have HO0 := Lib.hid (World.ownsRow_nil w7 w7.heap.size 5 1)
        have HBB := Lib.hid (Below.refl w7.heap.size w7)
        clear hq hF7 hB7
        go_wp2
        go_loopw [13, 15] (fun V i w2 => ∃ (p : Nat) (z : Int) (last : List Int), p ≤ k ∧ i = .int .i64 z ∧ Hid (z = (p : Int) - 1) ∧ Hid (w2.ownsRow w7.heap.size 5 1 V last.length (last.map (Value.int .u8))) ∧ Hid (LastOk key k p last) ∧ Hid (Below w7.heap.size w7 w2)) (fun _ i _ => (intOf i + 1).toNat)
        case atStart => exact ⟨k, _, [], Nat.le_refl _, rfl, Lib.hid rfl, HO0, HL0, HBB⟩
        case round =>
          clear HO0 HL0 HBB
          obtain ⟨p, z, last, hp, rfl, HZ, HOW, HLO, HBB⟩ := hrel
          obtain ⟨A8, c8, rfl, hc8, hC8⟩ := own_C HOW.out
          have HC8 := Lib.hid hC8
          have HBW := Lib.hid (HB7.out.trans (HBB.out.mono HB7.out.size))
          obtain ⟨lq, hlq⟩ : ∃ lq, lq = last.length := ⟨_, rfl⟩
          have HLQ := Lib.hid hlq
          have hl100 : lq ≤ 100 := by rw [hlq]; have := HLO.out.ln; omega
          rw [← hlq] at hc8 ⊢
          clear hlq hC8
          cases p with
          | zero =>
            obtain rfl : z = -1 := by have := HZ.out; omega
            have HLEN : Hid (lq < m → q = lq) := Lib.hid (fun h => by rw [HQ.out, HLQ.out]; exact HT.out.count HLO.out (by rw [← HLQ.out]; exact h))
            by_cases hlm : lq < m
            · obtain rfl : q = lq := HLEN.out hlm
              have hlm2 : (q : Int) < (m : Int) := by omega
              clear HLEN
              have HFR := Lib.hid (HF7.out.below HBB.out)
              have HQM := Lib.hid (show q ≤ m ∧ ∀ i, i < q → ∃ y, (keys st)[i]? = some [y] from ⟨by rw [HQ.out]; exact HRW.out.1, fun i hi => by
                have hi2 : i < (keys st).length := by rw [← HQ.out]; exact hi
                obtain ⟨y, e⟩ := HRW.out.2 _ (List.getElem_mem hi2)
                exact ⟨y, by rw [List.getElem?_eq_getElem hi2, e]⟩⟩)
              have hq64 : q ≤ 64 := by have := HQM.out.1; omega
              go_wp2
              go_loop [114] (fun i => ∃ k3 : Nat, k3 ≤ q ∧ i = .int .i64 (k3 : Int)) (fun i => q - (intOf i).toNat)
              case atStart => exact ⟨0, Nat.zero_le _, rfl⟩
              case round =>
                obtain ⟨k3, hk3, rfl⟩ := hrel
                by_cases hl3 : k3 < q
                · obtain ⟨y, hy⟩ := HQM.out.2 k3 hl3
                  obtain ⟨b, c9, b1, c1, e9, g9, hc9, _⟩ := fresh_at HFR.out k3 y hy
                  obtain rfl := sl_addr e9
                  clear e9
                  clear hy
                  go_wp2
                  go_round
                  case rel => exact ⟨k3 + 1, by omega, by go_num⟩
                  case measure => simp [intOf] <;> omega
                · by_cases hcond : 0 < k ∧ (k - 1) % 3 ≠ 2
                  · obtain ⟨hk0, hk2⟩ := hcond
                    obtain ⟨k', hk'⟩ : ∃ k', k = k' + 1 := ⟨k - 1, by omega⟩
                    have hk3' : k' % 3 ≠ 2 := by omega
                    obtain ⟨ad3, z, e3, g3, hz⟩ := byte_is HK.out k' (by rw [← HN.out]; omega)
                    cases e3
                    have g3' := old HBW.out g3
                    have HJ : Hid (∃ jj : Nat, (keys st)[jj]? = some [z]) := Lib.hid (List.mem_iff_getElem?.1 (mem_keys.2 (HT.out.kp.last k' hk' hk3' z hz)))
                    have hqm : (q : Int) ≤ (m : Int) := by have := HQM.out.1; omega
                    have t0 : ¬ ((k : Int) - 1).tmod 3 = 2 := by rw [Int.tmod_eq_emod_of_nonneg (by omega)]; omega
                    have t1 : ¬ ((k : Int) - 1) % 3 = 2 := by omega
                    have t2 : (k : Int) > 0 := by omega
                    have t3 : (k : Int) - 1 = (k' : Int) := by omega
                    have HBQ := Lib.hid HBW.out
                    obtain ⟨W, hW⟩ : ∃ W, W = wr := ⟨_, rfl⟩
                    subst hW
                    clear hk2 hk3' hz g3
                    go_wp2
                    go_loopw [17, 134] (fun v i w2 => ∃ (p : Nat) (fd : Bool), p ≤ q ∧ i = .int .i64 (p : Int) ∧ v = .bool fd ∧ Hid (fd = true ∨ ∀ j, j < p → (keys st)[j]? ≠ some [z]) ∧ Hid (∃ n, w2 = W.drewN n)) (fun _ i _ => q - (intOf i).toNat)
                    case atStart => exact ⟨0, false, Nat.zero_le _, rfl, rfl, Lib.hid (.inr fun j h => absurd h (by omega)), Lib.hid ⟨0, rfl⟩⟩
                    case round =>
                      obtain ⟨p, fd, hp, rfl, rfl, HFD, HWN⟩ := hrel
                      obtain ⟨nd, rfl⟩ := HWN.out
                      by_cases hlp : p < q
                      · obtain ⟨y, hy⟩ := HQM.out.2 p hlp
                        obtain ⟨b, c9, b1, c1, e9, g9, hc9, g10⟩ := fresh_at HFR.out p y hy
                        obtain rfl := sl_addr e9
                        have q9 : (W.drewN nd).cell? ⟨b, p, none⟩ = some (.slice (some ⟨b1, 0, none⟩) 1 c1) := g9
                        have q10 : (W.drewN nd).cell? ⟨b1, 0, none⟩ = some (.int .u8 y) := g10
                        have q3 := drewN_cell nd g3'
                        have HY := Lib.hid hy
                        clear e9 hy
                        cases fd with
                        | true =>
                          go_wp2
                          go_region
                          go_wp2
                          go_roundw
                          case rel => exact ⟨p + 1, true, by omega, by go_num, rfl, Lib.hid (.inl rfl), Lib.hid ⟨nd + 1, rfl⟩⟩
                          case measure => simp [intOf] <;> omega
                        | false =>
                          by_cases hyz : y = z
                          · subst hyz
                            go_wp2
                            go_region
                            go_wp2
                            go_roundw
                            case rel => exact ⟨p + 1, true, by omega, by go_num, by simp, Lib.hid (.inl rfl), Lib.hid ⟨nd + 1, rfl⟩⟩
                            case measure => simp [intOf] <;> omega
                          · have u0 : (y == z) = false := by simpa using hyz
                            have HFD2 : Hid (∀ j, j < p + 1 → (keys st)[j]? ≠ some [z]) := Lib.hid fun j hj e => by
                              by_cases e2 : j = p
                              · subst e2
                                rw [HY.out] at e
                                cases e
                                exact hyz rfl
                              · exact (HFD.out.resolve_left (by decide)) j (by omega) e
                            go_wp2
                            go_region
                            go_wp2
                            go_roundw
                            case rel => exact ⟨p + 1, false, by omega, by go_num, by simp, Lib.hid (.inr HFD2.out), Lib.hid ⟨nd + 1, rfl⟩⟩
                            case measure => simp [intOf] <;> omega
                      · have hfd : fd = true := HFD.out.resolve_right (fun h => by
                          obtain ⟨jj, hjj⟩ := HJ.out
                          exact h jj (by have := (List.getElem?_eq_some_iff.1 hjj).1; have := HQ.out; omega) hjj)
                        subst hfd
                        go_wp2
                        go_ret
                        exact ⟨by first | (simp; done) | (simp; omega), pw_below_drewN HBQ.out nd⟩
                  · have hqm : (q : Int) ≤ (m : Int) := by have := HQM.out.1; omega
                    rcases (show k = 0 ∨ (0 < k ∧ (k - 1) % 3 = 2) from by omega) with hk0 | ⟨hk0, hk2⟩
                    · subst hk0
                      go_wp2
                      go_ret
                      exact ⟨by first | (simp; done) | (simp; omega), HBW.out⟩
                    · have t0 : ((k : Int) - 1).tmod 3 = 2 := by rw [Int.tmod_eq_emod_of_nonneg (by omega)]; omega
                      have t1 : ((k : Int) - 1) % 3 = 2 := by omega
                      have t2 : (k : Int) > 0 := by omega
                      clear hcond hk2
                      go_wp2
                      go_ret
                      exact ⟨by first | (simp; done) | (simp; omega), HBW.out⟩
            · have hlm2 : ¬ (lq : Int) < (m : Int) := by omega
              clear HLEN
              have HFR := Lib.hid (HF7.out.below HBB.out)
              have HQM := Lib.hid (show q ≤ m ∧ ∀ i, i < q → ∃ y, (keys st)[i]? = some [y] from ⟨by rw [HQ.out]; exact HRW.out.1, fun i hi => by
                have hi2 : i < (keys st).length := by rw [← HQ.out]; exact hi
                obtain ⟨y, e⟩ := HRW.out.2 _ (List.getElem_mem hi2)
                exact ⟨y, by rw [List.getElem?_eq_getElem hi2, e]⟩⟩)
              have hq64 : q ≤ 64 := by have := HQM.out.1; omega
              go_wp2
              go_loop [114] (fun i => ∃ k3 : Nat, k3 ≤ q ∧ i = .int .i64 (k3 : Int)) (fun i => q - (intOf i).toNat)
              case atStart => exact ⟨0, Nat.zero_le _, rfl⟩
              case round =>
                obtain ⟨k3, hk3, rfl⟩ := hrel
                by_cases hl3 : k3 < q
                · obtain ⟨y, hy⟩ := HQM.out.2 k3 hl3
                  obtain ⟨b, c9, b1, c1, e9, g9, hc9, _⟩ := fresh_at HFR.out k3 y hy
                  obtain rfl := sl_addr e9
                  clear e9
                  clear hy
                  go_wp2
                  go_round
                  case rel => exact ⟨k3 + 1, by omega, by go_num⟩
                  case measure => simp [intOf] <;> omega
                · by_cases hcond : 0 < k ∧ (k - 1) % 3 ≠ 2
                  · obtain ⟨hk0, hk2⟩ := hcond
                    obtain ⟨k', hk'⟩ : ∃ k', k = k' + 1 := ⟨k - 1, by omega⟩
                    have hk3' : k' % 3 ≠ 2 := by omega
                    obtain ⟨ad3, z, e3, g3, hz⟩ := byte_is HK.out k' (by rw [← HN.out]; omega)
                    cases e3
                    have g3' := old HBW.out g3
                    have HJ : Hid (∃ jj : Nat, (keys st)[jj]? = some [z]) := Lib.hid (List.mem_iff_getElem?.1 (mem_keys.2 (HT.out.kp.last k' hk' hk3' z hz)))
                    have hqm : (q : Int) ≤ (m : Int) := by have := HQM.out.1; omega
                    have t0 : ¬ ((k : Int) - 1).tmod 3 = 2 := by rw [Int.tmod_eq_emod_of_nonneg (by omega)]; omega
                    have t1 : ¬ ((k : Int) - 1) % 3 = 2 := by omega
                    have t2 : (k : Int) > 0 := by omega
                    have t3 : (k : Int) - 1 = (k' : Int) := by omega
                    have HBQ := Lib.hid HBW.out
                    obtain ⟨W, hW⟩ : ∃ W, W = wr := ⟨_, rfl⟩
                    subst hW
                    clear hk2 hk3' hz g3
                    go_wp2
                    go_loopw [17, 134] (fun v i w2 => ∃ (p : Nat) (fd : Bool), p ≤ q ∧ i = .int .i64 (p : Int) ∧ v = .bool fd ∧ Hid (fd = true ∨ ∀ j, j < p → (keys st)[j]? ≠ some [z]) ∧ Hid (∃ n, w2 = W.drewN n)) (fun _ i _ => q - (intOf i).toNat)
                    case atStart => exact ⟨0, false, Nat.zero_le _, rfl, rfl, Lib.hid (.inr fun j h => absurd h (by omega)), Lib.hid ⟨0, rfl⟩⟩
                    case round =>
                      obtain ⟨p, fd, hp, rfl, rfl, HFD, HWN⟩ := hrel
                      obtain ⟨nd, rfl⟩ := HWN.out
                      by_cases hlp : p < q
                      · obtain ⟨y, hy⟩ := HQM.out.2 p hlp
                        obtain ⟨b, c9, b1, c1, e9, g9, hc9, g10⟩ := fresh_at HFR.out p y hy
                        obtain rfl := sl_addr e9
                        have q9 : (W.drewN nd).cell? ⟨b, p, none⟩ = some (.slice (some ⟨b1, 0, none⟩) 1 c1) := g9
                        have q10 : (W.drewN nd).cell? ⟨b1, 0, none⟩ = some (.int .u8 y) := g10
                        have q3 := drewN_cell nd g3'
                        have HY := Lib.hid hy
                        clear e9 hy
                        cases fd with
                        | true =>
                          go_wp2
                          go_region
                          go_wp2
                          go_roundw
                          case rel => exact ⟨p + 1, true, by omega, by go_num, rfl, Lib.hid (.inl rfl), Lib.hid ⟨nd + 1, rfl⟩⟩
                          case measure => simp [intOf] <;> omega
                        | false =>
                          by_cases hyz : y = z
                          · subst hyz
                            go_wp2
                            go_region
                            go_wp2
                            go_roundw
                            case rel => exact ⟨p + 1, true, by omega, by go_num, by simp, Lib.hid (.inl rfl), Lib.hid ⟨nd + 1, rfl⟩⟩
                            case measure => simp [intOf] <;> omega
                          · have u0 : (y == z) = false := by simpa using hyz
                            have HFD2 : Hid (∀ j, j < p + 1 → (keys st)[j]? ≠ some [z]) := Lib.hid fun j hj e => by
                              by_cases e2 : j = p
                              · subst e2
                                rw [HY.out] at e
                                cases e
                                exact hyz rfl
                              · exact (HFD.out.resolve_left (by decide)) j (by omega) e
                            go_wp2
                            go_region
                            go_wp2
                            go_roundw
                            case rel => exact ⟨p + 1, false, by omega, by go_num, by simp, Lib.hid (.inr HFD2.out), Lib.hid ⟨nd + 1, rfl⟩⟩
                            case measure => simp [intOf] <;> omega
                      · have hfd : fd = true := HFD.out.resolve_right (fun h => by
                          obtain ⟨jj, hjj⟩ := HJ.out
                          exact h jj (by have := (List.getElem?_eq_some_iff.1 hjj).1; have := HQ.out; omega) hjj)
                        subst hfd
                        go_wp2
                        go_ret
                        exact ⟨by first | (simp; done) | (simp; omega), pw_below_drewN HBQ.out nd⟩
                  · have hqm : (q : Int) ≤ (m : Int) := by have := HQM.out.1; omega
                    rcases (show k = 0 ∨ (0 < k ∧ (k - 1) % 3 = 2) from by omega) with hk0 | ⟨hk0, hk2⟩
                    · subst hk0
                      go_wp2
                      go_ret
                      exact ⟨by first | (simp; done) | (simp; omega), HBW.out⟩
                    · have t0 : ((k : Int) - 1).tmod 3 = 2 := by rw [Int.tmod_eq_emod_of_nonneg (by omega)]; omega
                      have t1 : ((k : Int) - 1) % 3 = 2 := by omega
                      have t2 : (k : Int) > 0 := by omega
                      clear hcond hk2
                      go_wp2
                      go_ret
                      exact ⟨by first | (simp; done) | (simp; omega), HBW.out⟩
          | succ j =>
            obtain rfl : z = (j : Int) := by have := HZ.out; omega
            by_cases hlm : lq < m
            · obtain ⟨ad2, x, e2, g2, hx⟩ := byte_is HK.out j (by rw [← HN.out]; omega)
              cases e2
              have g2' := old HBW.out g2
              have HX := Lib.hid hx
              have hj0 : (j : Int) ≥ 0 := by omega
              have hlm2 : (lq : Int) < (m : Int) := by omega
              clear g2 hx
              by_cases h3 : j % 3 = 2
              · have t0 : (j : Int).tmod 3 = 2 := by rw [Int.tmod_eq_emod_of_nonneg (by omega)]; omega
                have t1 : (j : Int) % 3 = 2 := by omega
                have HL2 := Lib.hid (HLO.out.skip (.inl h3))
                have HOW2 : Hid (wr.ownsRow w7.heap.size 5 1 (.slice A8 lq c8) last.length (last.map (Value.int .u8))) := Lib.hid (by rw [HLQ.out]; exact HOW.out)
                clear h3
                go_wp2
                go_roundw
                case rel => exact ⟨j, _, last, by omega, rfl, Lib.hid rfl, HOW2, HL2, HBB⟩
                case measure => simp [intOf] <;> omega
              · have t0 : ¬ (j : Int).tmod 3 = 2 := by rw [Int.tmod_eq_emod_of_nonneg (by omega)]; omega
                have t1 : ¬ (j : Int) % 3 = 2 := by omega
                have H3 := Lib.hid h3
                have hhas := has_ wr A8 c8 last x HC8.out
                rw [← HLQ.out] at hhas
                have HHAS := Lib.hid hhas
                have HOW2 : Hid (wr.ownsRow w7.heap.size 5 1 (.slice A8 lq c8) last.length (last.map (Value.int .u8))) := Lib.hid (by rw [HLQ.out]; exact HOW.out)
                clear h3 hhas
                go_wp2_with fail
                refine HHAS.out.mono ?_
                rintro e w9 ⟨rfl, rfl⟩
                by_cases hm : x ∈ last
                · rw [decide_eq_true hm]
                  have HL2 := Lib.hid (HLO.out.skip (.inr (fun y hy => by rw [HX.out] at hy; cases hy; exact hm)))
                  clear hm
                  go_wp2
                  go_roundw
                  case rel => exact ⟨j, _, last, by omega, rfl, Lib.hid rfl, HOW2, HL2, HBB⟩
                  case measure => simp [intOf] <;> omega
                · rw [decide_eq_false hm]
                  have HL2 := Lib.hid (HLO.out.add H3.out HX.out hm)
                  have HOW3 : Hid (wr.ownsRow w7.heap.size 5 1 (.slice A8 lq c8) lq (last.map (Value.int .u8))) := Lib.hid (by have := HOW2.out; rw [← HLQ.out] at this; exact this)
                  clear hm
                  go_wp2_with (first
                    | ((with_reducible refine gate_builtin (b := .append) (xs := #[.tmp 94, .tmp 99]) rfl ?_)
                       at_builtin
                       refine print_append_cells (w0 := w7) w7.heap.size rfl (.tmp 94) (.tmp 99) 32 5 (.int .u8 0) 1 1 rfl Try.underlying32 LruKw.info5 rfl (by decide) (by decide) (.slice A8 lq c8) lq (last.map (Value.int .u8)) [.int .u8 x] rfl rfl rfl (by simp; rfl) HOW3.out HBB.out HBB.out.size (by omega) ?_
                       intro V2 w9 ho hb hg hV
                       have e1 : (last ++ [x]).length = lq + 1 := by rw [HLQ.out]; simp
                       have e2 : (last ++ [x]).map (Value.int .u8) = last.map (Value.int .u8) ++ [.int .u8 x] := by simp
                       have HOW4 : Hid (w9.ownsRow w7.heap.size 5 1 V2 (last ++ [x]).length ((last ++ [x]).map (Value.int .u8))) := Lib.hid (by rw [e1, e2]; exact ho)
                       have HBB2 := Lib.hid hb
                       clear ho hb hg hV e1 e2)
                    | fail)
                  go_roundw
                  case rel => exact ⟨j, _, _, by omega, rfl, Lib.hid rfl, HOW4, HL2, HBB2⟩
                  case measure => simp [intOf] <;> omega
            · have hlm2 : ¬ (lq : Int) < (m : Int) := by omega
              have hj0 : (j : Int) ≥ 0 := by omega
              have HLEN : Hid (lq < m → q = lq) := Lib.hid (fun h => absurd h hlm)
              clear HLEN
              have HFR := Lib.hid (HF7.out.below HBB.out)
              have HQM := Lib.hid (show q ≤ m ∧ ∀ i, i < q → ∃ y, (keys st)[i]? = some [y] from ⟨by rw [HQ.out]; exact HRW.out.1, fun i hi => by
                have hi2 : i < (keys st).length := by rw [← HQ.out]; exact hi
                obtain ⟨y, e⟩ := HRW.out.2 _ (List.getElem_mem hi2)
                exact ⟨y, by rw [List.getElem?_eq_getElem hi2, e]⟩⟩)
              have hq64 : q ≤ 64 := by have := HQM.out.1; omega
              go_wp2
              go_loop [114] (fun i => ∃ k3 : Nat, k3 ≤ q ∧ i = .int .i64 (k3 : Int)) (fun i => q - (intOf i).toNat)
              case atStart => exact ⟨0, Nat.zero_le _, rfl⟩
              case round =>
                obtain ⟨k3, hk3, rfl⟩ := hrel
                by_cases hl3 : k3 < q
                · obtain ⟨y, hy⟩ := HQM.out.2 k3 hl3
                  obtain ⟨b, c9, b1, c1, e9, g9, hc9, _⟩ := fresh_at HFR.out k3 y hy
                  obtain rfl := sl_addr e9
                  clear e9
                  clear hy
                  go_wp2
                  go_round
                  case rel => exact ⟨k3 + 1, by omega, by go_num⟩
                  case measure => simp [intOf] <;> omega
                · by_cases hcond : 0 < k ∧ (k - 1) % 3 ≠ 2
                  · obtain ⟨hk0, hk2⟩ := hcond
                    obtain ⟨k', hk'⟩ : ∃ k', k = k' + 1 := ⟨k - 1, by omega⟩
                    have hk3' : k' % 3 ≠ 2 := by omega
                    obtain ⟨ad3, z, e3, g3, hz⟩ := byte_is HK.out k' (by rw [← HN.out]; omega)
                    cases e3
                    have g3' := old HBW.out g3
                    have HJ : Hid (∃ jj : Nat, (keys st)[jj]? = some [z]) := Lib.hid (List.mem_iff_getElem?.1 (mem_keys.2 (HT.out.kp.last k' hk' hk3' z hz)))
                    have hqm : (q : Int) ≤ (m : Int) := by have := HQM.out.1; omega
                    have t0 : ¬ ((k : Int) - 1).tmod 3 = 2 := by rw [Int.tmod_eq_emod_of_nonneg (by omega)]; omega
                    have t1 : ¬ ((k : Int) - 1) % 3 = 2 := by omega
                    have t2 : (k : Int) > 0 := by omega
                    have t3 : (k : Int) - 1 = (k' : Int) := by omega
                    have HBQ := Lib.hid HBW.out
                    obtain ⟨W, hW⟩ : ∃ W, W = wr := ⟨_, rfl⟩
                    subst hW
                    clear hk2 hk3' hz g3
                    go_wp2
                    go_loopw [17, 134] (fun v i w2 => ∃ (p : Nat) (fd : Bool), p ≤ q ∧ i = .int .i64 (p : Int) ∧ v = .bool fd ∧ Hid (fd = true ∨ ∀ j, j < p → (keys st)[j]? ≠ some [z]) ∧ Hid (∃ n, w2 = W.drewN n)) (fun _ i _ => q - (intOf i).toNat)
                    case atStart => exact ⟨0, false, Nat.zero_le _, rfl, rfl, Lib.hid (.inr fun j h => absurd h (by omega)), Lib.hid ⟨0, rfl⟩⟩
                    case round =>
                      obtain ⟨p, fd, hp, rfl, rfl, HFD, HWN⟩ := hrel
                      obtain ⟨nd, rfl⟩ := HWN.out
                      by_cases hlp : p < q
                      · obtain ⟨y, hy⟩ := HQM.out.2 p hlp
                        obtain ⟨b, c9, b1, c1, e9, g9, hc9, g10⟩ := fresh_at HFR.out p y hy
                        obtain rfl := sl_addr e9
                        have q9 : (W.drewN nd).cell? ⟨b, p, none⟩ = some (.slice (some ⟨b1, 0, none⟩) 1 c1) := g9
                        have q10 : (W.drewN nd).cell? ⟨b1, 0, none⟩ = some (.int .u8 y) := g10
                        have q3 := drewN_cell nd g3'
                        have HY := Lib.hid hy
                        clear e9 hy
                        cases fd with
                        | true =>
                          go_wp2
                          go_region
                          go_wp2
                          go_roundw
                          case rel => exact ⟨p + 1, true, by omega, by go_num, rfl, Lib.hid (.inl rfl), Lib.hid ⟨nd + 1, rfl⟩⟩
                          case measure => simp [intOf] <;> omega
                        | false =>
                          by_cases hyz : y = z
                          · subst hyz
                            go_wp2
                            go_region
                            go_wp2
                            go_roundw
                            case rel => exact ⟨p + 1, true, by omega, by go_num, by simp, Lib.hid (.inl rfl), Lib.hid ⟨nd + 1, rfl⟩⟩
                            case measure => simp [intOf] <;> omega
                          · have u0 : (y == z) = false := by simpa using hyz
                            have HFD2 : Hid (∀ j, j < p + 1 → (keys st)[j]? ≠ some [z]) := Lib.hid fun j hj e => by
                              by_cases e2 : j = p
                              · subst e2
                                rw [HY.out] at e
                                cases e
                                exact hyz rfl
                              · exact (HFD.out.resolve_left (by decide)) j (by omega) e
                            go_wp2
                            go_region
                            go_wp2
                            go_roundw
                            case rel => exact ⟨p + 1, false, by omega, by go_num, by simp, Lib.hid (.inr HFD2.out), Lib.hid ⟨nd + 1, rfl⟩⟩
                            case measure => simp [intOf] <;> omega
                      · have hfd : fd = true := HFD.out.resolve_right (fun h => by
                          obtain ⟨jj, hjj⟩ := HJ.out
                          exact h jj (by have := (List.getElem?_eq_some_iff.1 hjj).1; have := HQ.out; omega) hjj)
                        subst hfd
                        go_wp2
                        go_ret
                        exact ⟨by first | (simp; done) | (simp; omega), pw_below_drewN HBQ.out nd⟩
                  · have hqm : (q : Int) ≤ (m : Int) := by have := HQM.out.1; omega
                    rcases (show k = 0 ∨ (0 < k ∧ (k - 1) % 3 = 2) from by omega) with hk0 | ⟨hk0, hk2⟩
                    · subst hk0
                      go_wp2
                      go_ret
                      exact ⟨by first | (simp; done) | (simp; omega), HBW.out⟩
                    · have t0 : ((k : Int) - 1).tmod 3 = 2 := by rw [Int.tmod_eq_emod_of_nonneg (by omega)]; omega
                      have t1 : ((k : Int) - 1) % 3 = 2 := by omega
                      have t2 : (k : Int) > 0 := by omega
                      clear hcond hk2
                      go_wp2
                      go_ret
                      exact ⟨by first | (simp; done) | (simp; omega), HBW.out⟩
theorem law_calls (m : Int) (A : Option Addr) (key : List Int) (c : Nat) (w : World) (hk : Kd.C (Kd.int .u8) w A key.length key) (hc : key.length ≤ c) (hcm : c ≤ 9223372036854775807) (hkb : ∀ x ∈ key, 0 ≤ x ∧ x ≤ 255) :
    Calls Try.prog 8 #[.int .i64 m, .slice A key.length c] w fun e w' => e = .returned (.bool true) ∧ Below w.heap.size w w' := by
  by_cases h : 1 ≤ m ∧ m ≤ 64
  · obtain ⟨k, rfl⟩ := Int.eq_ofNat_of_zero_le (show 0 ≤ m by omega)
    exact law_ok k A key c w (by omega) (by omega) hk hc hcm hkb
  · exact law_bad m _ w (fun h2 => h ⟨h2.2.2.1, h2.2.2.2⟩)
end Go.Proofs.Ytfbajampfiodeaa.LruKeeps
