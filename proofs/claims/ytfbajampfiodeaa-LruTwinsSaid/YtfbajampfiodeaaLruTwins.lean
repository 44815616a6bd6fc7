/- lru: with room for all keys it answers as a hash does: walked by hand. -/
import Derived.Test.YtfbajampfiodeaaLruTw
namespace Go.Proofs.Ytfbajampfiodeaa.LruTwins
open Go.RowKit Go.Proofs.Ytfbajampfiodeaa.PArrayPlays Go.Proofs.YtfbajampfiodeaaW.PrintWords Go.Proofs.YtfbajampfiodeaaW.PrintLast Go.Proofs.YtfbajampfiodeaaW.PrintMore Go.Proofs.Ytfbajampfiodeaa.Mw Go.Proofs.Ytfbajampfiodeaa.Rx Go.Proofs.Ytfbajampfiodeaa.RxOps Go.Proofs.Ytfbajampfiodeaa.RxPut Go.Proofs.Ytfbajampfiodeaa.Fresh Go.Proofs.Ytfbajampfiodeaa.RefAbs Go.Proofs.Ytfbajampfiodeaa.Hm Go.Proofs.Ytfbajampfiodeaa.First08 Go.Proofs.Ytfbajampfiodeaa.Op Go.Proofs.Ytfbajampfiodeaa.LruTw
set_option linter.unusedVariables false
set_option maxRecDepth 100000 in
set_option maxHeartbeats 16000000 in
theorem law_calls (AK : Option Addr) (key : List Int) (ck : Nat) (A : Option Addr) (xs : List (Int × List Int × Int)) (c : Nat) (w : World) (hk : Kd.C (Kd.int .u8) w AK key.length key) (hkc : key.length ≤ ck) (hckm : ck ≤ 9223372036854775807) (hkb : ∀ x ∈ key, 0 ≤ x ∧ x ≤ 255) (hx : Kd.C kOp w A xs.length xs) (hc : xs.length ≤ c) (hcm : c ≤ 9223372036854775807) :
    Calls Try.prog 11 #[.slice AK key.length ck, .slice A xs.length c] w fun e w' => e = .returned (.bool true) ∧ Below w.heap.size w w' := by
  have HX := Lib.hid hx
  have HK := Lib.hid hk
  have HKB := Lib.hid hkb
  clear hx hk hkb
  obtain ⟨nn, hnn⟩ : ∃ nn : Nat, nn = xs.length := ⟨_, rfl⟩
  have HN := Lib.hid hnn
  rw [← hnn] at hc HX ⊢
  clear hnn
  obtain ⟨lk, hlk⟩ : ∃ lk : Nat, lk = key.length := ⟨_, rfl⟩
  have HLK := Lib.hid hlk
  rw [← hlk] at hkc ⊢
  clear hlk
  go_enter Try.func11, Try.ntmps11
  go_wp2_with fail
  refine (first_calls w).mono ?_
  rintro e w1 ⟨rfl, hB⟩
  have HB := Lib.hid hB
  clear hB
  go_wp2_with fail
  refine ((Imp08.new_both 1 64 ⟨by decide, by decide, by decide, by decide⟩).1 w1).mono ?_
  rintro e w2 ⟨F1, gx, rfl, hI, hF1, hB2⟩
  have HI := Lib.hid hI; have HF1 := Lib.hid hF1; have HB2 := Lib.hid hB2
  clear hI hF1 hB2
  go_wp2_with fail
  refine ((Imp07.new_both 1 64 ⟨by decide, by decide, by decide, by decide⟩).1 w2).mono ?_
  rintro e w3 ⟨F2, gy, rfl, hI3, hF2, hB3⟩
  have HS : Hid (∃ F1 F2 st, Tw w w3 F1 F2 gx gy 0 st) := by
    refine Lib.hid ⟨F1, F2, Imp08.st0 64, ⟨HI.out.keep (fun b hb => hB3.block b (HI.out.lt b hb)) hB3.size, hI3, fun b h1 h2 => ?_, ⟨fun b hb => Nat.le_trans HB.out.size (HF1.out b hb), fun b hb => Nat.le_trans HB.out.size (Nat.le_trans HB2.out.size (hF2 b hb))⟩, fun i l h => ?_, ?_, HB.out.trans ((HB2.out.mono HB.out.size).trans (hB3.mono (Nat.le_trans HB.out.size HB2.out.size)))⟩⟩
    · have := HI.out.lt b h1
      have := hF2 b h2
      omega
    · have h : (List.replicate 64 (none : Option (List Int)))[i]? = some (some l) := h
      rw [List.getElem?_replicate] at h
      split at h <;> cases h
    · show (List.replicate 64 (none : Option (List Int))).length = 64
      simp
  clear hI3 hF2 hB3 HB HI HF1 HB2
  go_wp2
  go_loopw [52] (fun i wr => ∃ k : Nat, k ≤ nn ∧ k ≤ 60 ∧ i = .int .i64 (k : Int) ∧ Hid (∃ F1 F2 st, Tw w wr F1 F2 gx gy k st)) (fun i _ => nn - (intOf i).toNat)
  case atStart => exact ⟨0, Nat.zero_le _, by omega, rfl, HS⟩
  case round =>
    clear HS
    obtain ⟨k, hk, hk60, rfl, HS⟩ := hrel
    obtain ⟨F1, F2, st, hT⟩ := HS.out
    have HT := Lib.hid hT
    clear hT HS
    by_cases hlt : k < nn ∧ k < 60 ∧ 0 < lk
    · obtain ⟨hlt, hlt8, hlk0⟩ := hlt
      obtain ⟨ad, a, l, f, A1, c1, rfl, g0, g1, g2, hl, hC, hm⟩ := op_at HX.out k (by omega)
      have g0' := old HT.out.bel g0
      have g1' := old HT.out.bel g1
      have g2' := old HT.out.bel g2
      have hi0 : 0 ≤ (k : Int).tmod (lk : Int) := Int.tmod_nonneg _ (by omega)
      have hi1 : (k : Int).tmod (lk : Int) < (lk : Int) := Int.tmod_lt_of_pos _ (by omega)
      have hi2 : 0 ≤ (k : Int) % (lk : Int) := Int.emod_nonneg _ (by omega)
      have hi3 : (k : Int) % (lk : Int) < (lk : Int) := Int.emod_lt_of_pos _ (by omega)
      obtain ⟨adk, kb, rfl, gk, hkm⟩ := byte_at HK.out (k % lk) (by rw [← HLK.out]; exact Nat.mod_lt _ hlk0)
      have gk' := old HT.out.bel gk
      have gka : ∀ o, (wr.alloc o).cell? (adk.add (k % lk)) = some (.int .u8 kb) := fun o => old (below_alloc HT.out.bel o) gk
      have HKX := Lib.hid (show 0 ≤ kb.tmod 60 ∧ kb.tmod 60 < 60 from by have := HKB.out kb hkm; exact ⟨Int.tmod_nonneg _ (by omega), Int.tmod_lt_of_pos _ (by omega)⟩)
      have n60 : ¬ ((k : Int) ≥ 60) := by omega
      have nz : ((lk : Int) == 0) = false := by simp; omega
      clear hC hm g0 g1 g2 gk hkm
      have e1 : (wr.alloc (Obj.cells #[.int .i64 a, .slice A1 l.length c1, .int .u64 f] 67)).heap.size = wr.heap.size + 1 := by simp
      have HT2 : Hid (Tw w ((wr.alloc (Obj.cells #[.int .i64 a, .slice A1 l.length c1, .int .u64 f] 67)).alloc (Obj.cells #[.int .u8 (kb.tmod 60)] 5)) F1 F2 gx gy k st) := Lib.hid ((HT.out.alloc _).alloc _)
      have HCK : Hid (Kd.C (Kd.int .u8) ((wr.alloc (Obj.cells #[.int .i64 a, .slice A1 l.length c1, .int .u64 f] 67)).alloc (Obj.cells #[.int .u8 (kb.tmod 60)] 5)) (some ⟨wr.heap.size + 1, 0, none⟩) 1 [kb.tmod 60]) := Lib.hid (by rw [← e1]; exact rowC (Row.of (heap_alloc_new _ _) rfl) (by simp))
      have HA1 : Hid (∀ ad, (some ⟨wr.heap.size + 1, 0, none⟩ : Option Addr) = some ad → 0 < [kb.tmod 60].length → ¬ F1 ad.block) := Lib.hid (fun ad e _ h => by cases e; have := HT.out.x.lt _ h; simp at this; omega)
      have HA2 : Hid (∀ ad, (some ⟨wr.heap.size + 1, 0, none⟩ : Option Addr) = some ad → 0 < [kb.tmod 60].length → ¬ F2 ad.block) := Lib.hid (fun ad e _ h => by cases e; have := HT.out.y.lt _ h; simp at this; omega)
      have HBY : Hid (∀ x ∈ [kb.tmod 60], 0 ≤ x ∧ x ≤ 255) := Lib.hid (fun x hx => by obtain rfl := List.mem_singleton.1 hx; have := HKX.out; omega)
      have HQF : Hid (∀ W (G : Nat → Prop), Step ((wr.alloc (Obj.cells #[.int .i64 a, .slice A1 l.length c1, .int .u64 f] 67)).alloc (Obj.cells #[.int .u8 (kb.tmod 60)] 5)) W F1 G → W.cell? ⟨wr.heap.size, 2, none⟩ = some (.int .u64 f)) := Lib.hid fun W G hs => hs.cell (p := ⟨wr.heap.size, 2, none⟩) ((blk_cell (blk_alloc (heap_alloc_new wr _) _) 2).trans rfl) (fun h => Nat.lt_irrefl _ (HT.out.x.lt _ h))
      have hk40 : k < 1099511627776 := by omega
      clear e1 HT
      go_wp2_with fail
      · obtain ⟨r, hr⟩ : ∃ r, r = fnd 2 1 st [kb.tmod 60] := ⟨_, rfl⟩
        have HRR := Lib.hid hr
        have hc := Imp08.imp_find HT2.out.x (some ⟨wr.heap.size + 1, 0, none⟩) 1 [kb.tmod 60] HCK.out (Nat.le_refl _) HBY.out HA1.out
        rw [show fnd Imp08.kd 1 st [kb.tmod 60] = r from hr.symm] at hc
        clear hr
        refine hc.mono ?_
        clear hc
        rintro e w4 ⟨rfl, G1, hx4, s1⟩
        have hc := Imp07.imp_find (HT2.out.mid s1) (some ⟨wr.heap.size + 1, 0, none⟩) 1 [kb.tmod 60] (Cu8_step HCK.out s1 HA1.out) (Nat.le_refl _) HBY.out HA2.out
        rw [show fnd Imp07.kd 1 st [kb.tmod 60] = r from (fnd_twin _ _).trans HRR.out.symm] at hc
        have HC := Lib.hid hc; have HX4 := Lib.hid hx4; have S1 := Lib.hid s1
        clear hc hx4 s1
        go_wp2_with fail
        refine HC.out.mono ?_
        rintro e w5 ⟨rfl, G2, hy5, s2⟩
        have HT5 : Hid (∃ F1 F2 st, Tw w w5 F1 F2 gx gy (k + 1) st) := Lib.hid ⟨_, _, _, HT2.out.step HX4.out S1.out hy5 s2 (HRR.out ▸ fnd_small HT2.out.sm)⟩
        clear hy5 s2 HC HX4 S1
        obtain ⟨r1, r2⟩ := r
        clear HRR
        go_wp2
        go_roundw
        case rel => exact ⟨k + 1, by omega, by omega, by go_num, HT5⟩
        case measure => simp [intOf]; omega
      · obtain ⟨r, hr⟩ : ∃ r, r = put 2 1 st [kb.tmod 60] f := ⟨_, rfl⟩
        have HRR := Lib.hid hr
        have hc := Imp08.imp_put HT2.out.x hk40 (some ⟨wr.heap.size + 1, 0, none⟩) 1 [kb.tmod 60] f HCK.out (Nat.le_refl _) HBY.out HA1.out
        rw [show put Imp08.kd 1 st [kb.tmod 60] f = r from hr.symm] at hc
        clear hr
        refine hc.mono ?_
        clear hc
        rintro e w4 ⟨rfl, G1, hx4, s1⟩
        have hc := Imp07.imp_put (HT2.out.mid s1) hk40 (some ⟨wr.heap.size + 1, 0, none⟩) 1 [kb.tmod 60] f (Cu8_step HCK.out s1 HA1.out) (Nat.le_refl _) HBY.out HA2.out
        rw [show put Imp07.kd 1 st [kb.tmod 60] f = r from (put_twin _ _ _ HT2.out.room).trans HRR.out.symm] at hc
        have q2 := HQF.out _ _ s1
        have HC := Lib.hid hc; have HX4 := Lib.hid hx4; have S1 := Lib.hid s1
        clear hc hx4 s1
        go_wp2_with fail
        refine HC.out.mono ?_
        rintro e w5 ⟨rfl, G2, hy5, s2⟩
        have HT5 : Hid (∃ F1 F2 st, Tw w w5 F1 F2 gx gy (k + 1) st) := Lib.hid ⟨_, _, _, HT2.out.step HX4.out S1.out hy5 s2 (HRR.out ▸ put_small HT2.out.sm HKX.out)⟩
        clear hy5 s2 HC HX4 S1
        obtain ⟨r1, r2⟩ := r
        clear HRR
        go_wp2
        go_roundw
        case rel => exact ⟨k + 1, by omega, by omega, by go_num, HT5⟩
        case measure => simp [intOf]; omega
      · obtain ⟨r, hr⟩ : ∃ r, r = del 2 1 st [kb.tmod 60] := ⟨_, rfl⟩
        have HRR := Lib.hid hr
        have hc := Imp08.imp_del HT2.out.x (some ⟨wr.heap.size + 1, 0, none⟩) 1 [kb.tmod 60] HCK.out (Nat.le_refl _) HBY.out HA1.out
        rw [show del Imp08.kd 1 st [kb.tmod 60] = r from hr.symm] at hc
        clear hr
        refine hc.mono ?_
        clear hc
        rintro e w4 ⟨rfl, G1, hx4, s1⟩
        have hc := Imp07.imp_del (HT2.out.mid s1) (some ⟨wr.heap.size + 1, 0, none⟩) 1 [kb.tmod 60] (Cu8_step HCK.out s1 HA1.out) (Nat.le_refl _) HBY.out HA2.out
        rw [show del Imp07.kd 1 st [kb.tmod 60] = r from (del_twin _ _).trans HRR.out.symm] at hc
        have HC := Lib.hid hc; have HX4 := Lib.hid hx4; have S1 := Lib.hid s1
        clear hc hx4 s1
        go_wp2_with fail
        refine HC.out.mono ?_
        rintro e w5 ⟨rfl, G2, hy5, s2⟩
        have HT5 : Hid (∃ F1 F2 st, Tw w w5 F1 F2 gx gy (k + 1) st) := Lib.hid ⟨_, _, _, HT2.out.step HX4.out S1.out hy5 s2 (HRR.out ▸ del_small HT2.out.sm)⟩
        clear hy5 s2 HC HX4 S1
        obtain ⟨r1, r2⟩ := r
        clear HRR
        go_wp2
        go_roundw
        case rel => exact ⟨k + 1, by omega, by omega, by go_num, HT5⟩
        case measure => simp [intOf]; omega
    · have HEND : Hid (k = nn ∨ (k < nn ∧ k = 60) ∨ (k < nn ∧ k < 60 ∧ lk = 0)) := Lib.hid (by omega)
      rcases HEND.out with h1 | ⟨h1, h2⟩ | ⟨h1, h2, h3⟩
      · subst h1
        clear hlt
        have HRW := Lib.hid (small_rows HT.out.sm HT.out.ln)
        have HRL : Hid (∀ l ∈ keys st, l.length ≤ 9223372036854775807) := Lib.hid (fun l hl => by have := (HRW.out.2 l hl).1; omega)
        go_wp2_with fail
        refine (Imp08.imp_keys HT.out.x).mono ?_
        rintro e w7 ⟨v, rfl, hF7, hB7⟩
        obtain ⟨A7, c7, rfl, _, hC7⟩ := hF7.read (by have := HRW.out.1; omega) HRL.out
        have HC7 := Lib.hid hC7; have HB7 := Lib.hid (below_step HT.out.bel hB7)
        have HR7 := Lib.hid (HT.out.y.keep (fun b hb => hB7.block b (HT.out.y.lt b hb)) hB7.size)
        clear hF7 hB7 hC7
        go_wp2_with fail
        refine (Imp07.imp_keys HR7.out).mono ?_
        rintro e w8 ⟨v, rfl, hF8, hB8⟩
        obtain ⟨A8, c8, rfl, _, hC8⟩ := hF8.read (by have := HRW.out.1; omega) HRL.out
        have HC8 := Lib.hid hC8; have HB8 := Lib.hid (below_step HB7.out hB8)
        have HC7' := Lib.hid (Kd.C_below HC7.out hB8)
        clear hF8 hB8 hC8 HC7
        go_wp2_with fail
        refine (SameKeys08.sameKeys_ w8 A7 A8 c7 c8 (keys st) (keys st) HC7'.out HC8.out (fun l hl => (HRW.out.2 l hl).2) (fun l hl => (HRW.out.2 l hl).2) (by have := HRW.out.1; omega)).mono ?_
        rintro e w9 ⟨rfl, n, rfl⟩
        rw [decide_eq_true rfl]
        go_wp2
        go_ret
        exact ⟨rfl, pw_below_drewN HB8.out n⟩
      · obtain ⟨ad, a, l, f, A1, c1, rfl, g0, g1, g2, hl, hC, hm⟩ := op_at HX.out k (by omega)
        have g0' := old HT.out.bel g0
        have g1' := old HT.out.bel g1
        have g2' := old HT.out.bel g2
        have HTA : Hid (Tw w (wr.alloc (Obj.cells #[.int .i64 a, .slice A1 l.length c1, .int .u64 f] 67)) F1 F2 gx gy k st) := Lib.hid (HT.out.alloc _)
        clear hC hm g0 g1 g2 hlt
        have n60 : (k : Int) ≥ 60 := by omega
        clear h2
        have HRW := Lib.hid (small_rows HTA.out.sm HTA.out.ln)
        have HRL : Hid (∀ l ∈ keys st, l.length ≤ 9223372036854775807) := Lib.hid (fun l hl => by have := (HRW.out.2 l hl).1; omega)
        go_wp2_with fail
        refine (Imp08.imp_keys HTA.out.x).mono ?_
        rintro e w7 ⟨v, rfl, hF7, hB7⟩
        obtain ⟨A7, c7, rfl, _, hC7⟩ := hF7.read (by have := HRW.out.1; omega) HRL.out
        have HC7 := Lib.hid hC7; have HB7 := Lib.hid (below_step HTA.out.bel hB7)
        have HR7 := Lib.hid (HTA.out.y.keep (fun b hb => hB7.block b (HTA.out.y.lt b hb)) hB7.size)
        clear hF7 hB7 hC7
        go_wp2_with fail
        refine (Imp07.imp_keys HR7.out).mono ?_
        rintro e w8 ⟨v, rfl, hF8, hB8⟩
        obtain ⟨A8, c8, rfl, _, hC8⟩ := hF8.read (by have := HRW.out.1; omega) HRL.out
        have HC8 := Lib.hid hC8; have HB8 := Lib.hid (below_step HB7.out hB8)
        have HC7' := Lib.hid (Kd.C_below HC7.out hB8)
        clear hF8 hB8 hC8 HC7
        go_wp2_with fail
        refine (SameKeys08.sameKeys_ w8 A7 A8 c7 c8 (keys st) (keys st) HC7'.out HC8.out (fun l hl => (HRW.out.2 l hl).2) (fun l hl => (HRW.out.2 l hl).2) (by have := HRW.out.1; omega)).mono ?_
        rintro e w9 ⟨rfl, n, rfl⟩
        rw [decide_eq_true rfl]
        go_wp2
        go_ret
        exact ⟨rfl, pw_below_drewN HB8.out n⟩
      · obtain ⟨ad, a, l, f, A1, c1, rfl, g0, g1, g2, hl, hC, hm⟩ := op_at HX.out k (by omega)
        have g0' := old HT.out.bel g0
        have g1' := old HT.out.bel g1
        have g2' := old HT.out.bel g2
        have HTA : Hid (Tw w (wr.alloc (Obj.cells #[.int .i64 a, .slice A1 l.length c1, .int .u64 f] 67)) F1 F2 gx gy k st) := Lib.hid (HT.out.alloc _)
        clear hC hm g0 g1 g2 hlt
        have n60 : ¬ ((k : Int) ≥ 60) := by omega
        subst h3
        have HRW := Lib.hid (small_rows HTA.out.sm HTA.out.ln)
        have HRL : Hid (∀ l ∈ keys st, l.length ≤ 9223372036854775807) := Lib.hid (fun l hl => by have := (HRW.out.2 l hl).1; omega)
        go_wp2_with fail
        refine (Imp08.imp_keys HTA.out.x).mono ?_
        rintro e w7 ⟨v, rfl, hF7, hB7⟩
        obtain ⟨A7, c7, rfl, _, hC7⟩ := hF7.read (by have := HRW.out.1; omega) HRL.out
        have HC7 := Lib.hid hC7; have HB7 := Lib.hid (below_step HTA.out.bel hB7)
        have HR7 := Lib.hid (HTA.out.y.keep (fun b hb => hB7.block b (HTA.out.y.lt b hb)) hB7.size)
        clear hF7 hB7 hC7
        go_wp2_with fail
        refine (Imp07.imp_keys HR7.out).mono ?_
        rintro e w8 ⟨v, rfl, hF8, hB8⟩
        obtain ⟨A8, c8, rfl, _, hC8⟩ := hF8.read (by have := HRW.out.1; omega) HRL.out
        have HC8 := Lib.hid hC8; have HB8 := Lib.hid (below_step HB7.out hB8)
        have HC7' := Lib.hid (Kd.C_below HC7.out hB8)
        clear hF8 hB8 hC8 HC7
        go_wp2_with fail
        refine (SameKeys08.sameKeys_ w8 A7 A8 c7 c8 (keys st) (keys st) HC7'.out HC8.out (fun l hl => (HRW.out.2 l hl).2) (fun l hl => (HRW.out.2 l hl).2) (by have := HRW.out.1; omega)).mono ?_
        rintro e w9 ⟨rfl, n, rfl⟩
        rw [decide_eq_true rfl]
        go_wp2
        go_ret
        exact ⟨rfl, pw_below_drewN HB8.out n⟩
end Go.Proofs.Ytfbajampfiodeaa.LruTwins
