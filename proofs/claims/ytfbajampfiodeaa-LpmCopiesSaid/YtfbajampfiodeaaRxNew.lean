/- The document's index (posternref06.Index): New, of all kinds, walked by hand. -/
import Derived.Test.YtfbajampfiodeaaRxPut
namespace Go.Proofs.Ytfbajampfiodeaa.RxNew
open Go.RowKit Go.Proofs.Ytfbajampfiodeaa.PArrayPlays Go.Proofs.YtfbajampfiodeaaW.PrintWords Go.Proofs.YtfbajampfiodeaaW.PrintLast Go.Proofs.YtfbajampfiodeaaW.PrintMore Go.Proofs.Ytfbajampfiodeaa.Mw Go.Proofs.Ytfbajampfiodeaa.Rx Go.Proofs.Ytfbajampfiodeaa.RxOps Go.Proofs.Ytfbajampfiodeaa.RxPut
set_option linter.unusedVariables false
theorem bytes_step (k : Nat) (v : Int) (x : List Int) (i : Nat) (hi : i < 4) (hx : x.length < 100) (h0 : 0 ≤ v) (h1 : v < 18446744073709551616) : posternref01_Bytes.l0 (k + 1) v 4 x (i : Int) = posternref01_Bytes.l0 k (v / 256) 4 (x ++ [v % 256]) ((i + 1 : Nat) : Int) := by
  rw [posternref01_Bytes.l0, if_pos (by omega), if_pos (by omega), Int.tdiv_eq_ediv_of_nonneg h0, Int.tmod_eq_emod_of_nonneg h0, IntKind.wrap_u64, show v / 256 % 18446744073709551616 = v / 256 by omega, show v % 256 % 256 = v % 256 by omega, show wrap64 ((i : Int) + 1) = ((i + 1 : Nat) : Int) by unfold wrap64; omega]
theorem Bytes4 (i : Nat) (h : i < 64) : posternref01_Bytes.f 5 (i : Int) 4 = some [(i : Int), 0, 0, 0] := by
  unfold posternref01_Bytes.f
  have e0 := bytes_step 4 (i : Int) [] 0 (by omega) (by simp) (by omega) (by omega)
  have e1 := bytes_step 3 ((i : Int) / 256) ([] ++ [(i : Int) % 256]) 1 (by omega) (by simp) (by omega) (by omega)
  have e2 := bytes_step 2 ((i : Int) / 256 / 256) ([] ++ [(i : Int) % 256] ++ [(i : Int) / 256 % 256]) 2 (by omega) (by simp) (by omega) (by omega)
  have e3 := bytes_step 1 ((i : Int) / 256 / 256 / 256) ([] ++ [(i : Int) % 256] ++ [(i : Int) / 256 % 256] ++ [(i : Int) / 256 / 256 % 256]) 3 (by omega) (by simp) (by omega) (by omega)
  refine (e0.trans (e1.trans (e2.trans e3))).trans ?_
  rw [posternref01_Bytes.l0, if_neg (by omega)]
  congr 1
  simp only [List.nil_append, List.cons_append]
  congr 1
  · omega
  · congr 1
    · omega
    · congr 1
      · omega
      · congr 1
        omega
theorem bytes_ (i : Nat) (h : i < 64) (w : World) (a0 : Int) (ha : a0 = (i : Int)) :
    Calls Try.prog 57 #[.int .u64 a0, .int .i64 4] w fun e w' => ∃ b c, e = .returned (.slice (some ⟨b, 0, none⟩) 4 c) ∧ 4 ≤ c ∧ w.heap.size ≤ b ∧ Row w' b 5 (([(i : Int), 0, 0, 0] : List Int).map (Value.int .u8)) ∧ Below w.heap.size w w' := by
  subst ha
  refine (posternref01_Bytes.calls 5 (i : Int) 4 _ w (Bytes4 i h)).mono fun e w' ⟨v, he, hR, hb⟩ => ?_
  obtain ⟨b, c, rfl, h1, h2, _, h3⟩ := keyR hR (by simp)
  exact ⟨b, c, he, h1, h2, h3, hb⟩
theorem made_rep (u : Value) (n : Nat) : madeCells #[u] n = (List.replicate n u).toArray := by
  apply Array.ext
  · simp [madeCells]
  · intro i h1 h2
    simp [madeCells, Nat.mod_one]
theorem made {W : World} {g gs gw m : Nat} {kd sz mx : Int} (h1 : W.heap[gs]? = some (.cells (madeCells #[.slice none 0 0] m) 32 (0, 0))) (h2 : W.heap[gw]? = some (.cells (madeCells #[.int .i64 0] m) 3 (0, 0)))
    (h3 : W.heap[g]? = some (.cells #[.int .i64 kd, .int .i64 sz, .int .i64 mx, .slice (some ⟨gs, 0, none⟩) m m, .slice (some ⟨gw, 0, none⟩) m m, .int .i64 0] 91 (0, 0))) (hm : 0 < m ∧ m ≤ 64) (hsz : 0 < sz ∧ sz ≤ 16) :
    RIx W (fun b => b = g ∨ b = gs ∨ b = gw) g gs gw kd sz mx 0 (List.replicate m none) (List.replicate m 0) := by
  refine ⟨⟨m, m, by simpa using h3, by simp, by simp⟩, by simp, ⟨List.replicate m (.slice none 0 0), by simp, ⟨[], by rw [h1, made_rep, List.append_nil]⟩, fun i v k e1 e2 => ?_⟩, ⟨[], by rw [h2, made_rep, List.append_nil, List.map_replicate]⟩, ⟨.inl rfl, .inr (.inl rfl), .inr (.inr rfl)⟩, fun b hb => ?_, by simpa using hm, Int.le_refl 0, hsz, fun l hl => ?_⟩
  · rw [List.getElem?_replicate] at e1 e2
    split at e1
    · rename_i hlt
      rw [if_pos hlt] at e2
      cases e1; cases e2
      rfl
    · cases e1
  · rcases hb with rfl | rfl | rfl
    · exact blk_lt h3
    · exact blk_lt h1
    · exact blk_lt h2
  · exact absurd (List.eq_of_mem_replicate hl) (by simp)
theorem made_ab {w : World} {m : Nat} (kd sz mx : Int) (hm : 0 < m ∧ m ≤ 64) (hsz : 0 < sz ∧ sz ≤ 16) : RIx (((w.alloc (Obj.cells (madeCells #[.slice none 0 0] m) 32)).alloc (Obj.cells (madeCells #[.int .i64 0] m) 3)).alloc (Obj.cells #[.int .i64 kd, .int .i64 sz, .int .i64 mx, .slice (some ⟨w.heap.size, 0, none⟩) m m, .slice (some ⟨w.heap.size + 1, 0, none⟩) m m, .int .i64 0] 91)).drew
    (fun b => b = w.heap.size + 1 + 1 ∨ b = w.heap.size ∨ b = w.heap.size + 1) (w.heap.size + 1 + 1) w.heap.size (w.heap.size + 1) kd sz mx 0 (List.replicate m none) (List.replicate m 0) := by
  refine made ?_ ?_ ?_ hm hsz
  · exact blk_alloc (blk_alloc (heap_alloc_new w _) _) _
  · have := heap_alloc_new (w.alloc (Obj.cells (madeCells #[.slice none 0 0] m) 32)) (Obj.cells (madeCells #[.int .i64 0] m) 3)
    exact blk_alloc (by simpa using this) _
  · have e : ((w.alloc (Obj.cells (madeCells #[.slice none 0 0] m) 32)).alloc (Obj.cells (madeCells #[.int .i64 0] m) 3)).heap.size = w.heap.size + 1 + 1 := by simp
    have := heap_alloc_new ((w.alloc (Obj.cells (madeCells #[.slice none 0 0] m) 32)).alloc (Obj.cells (madeCells #[.int .i64 0] m) 3)) (Obj.cells #[.int .i64 kd, .int .i64 sz, .int .i64 mx, .slice (some ⟨w.heap.size, 0, none⟩) m m, .slice (some ⟨w.heap.size + 1, 0, none⟩) m m, .int .i64 0] 91)
    rw [e] at this
    exact this
theorem made_ba {w : World} {m : Nat} (kd sz mx : Int) (hm : 0 < m ∧ m ≤ 64) (hsz : 0 < sz ∧ sz ≤ 16) : RIx (((w.alloc (Obj.cells (madeCells #[.int .i64 0] m) 3)).alloc (Obj.cells (madeCells #[.slice none 0 0] m) 32)).alloc (Obj.cells #[.int .i64 kd, .int .i64 sz, .int .i64 mx, .slice (some ⟨w.heap.size + 1, 0, none⟩) m m, .slice (some ⟨w.heap.size, 0, none⟩) m m, .int .i64 0] 91)).drew
    (fun b => b = w.heap.size + 1 + 1 ∨ b = w.heap.size + 1 ∨ b = w.heap.size) (w.heap.size + 1 + 1) (w.heap.size + 1) w.heap.size kd sz mx 0 (List.replicate m none) (List.replicate m 0) := by
  refine made ?_ ?_ ?_ hm hsz
  · have := heap_alloc_new (w.alloc (Obj.cells (madeCells #[.int .i64 0] m) 3)) (Obj.cells (madeCells #[.slice none 0 0] m) 32)
    exact blk_alloc (by simpa using this) _
  · exact blk_alloc (blk_alloc (heap_alloc_new w _) _) _
  · have e : ((w.alloc (Obj.cells (madeCells #[.int .i64 0] m) 3)).alloc (Obj.cells (madeCells #[.slice none 0 0] m) 32)).heap.size = w.heap.size + 1 + 1 := by simp
    have := heap_alloc_new ((w.alloc (Obj.cells (madeCells #[.int .i64 0] m) 3)).alloc (Obj.cells (madeCells #[.slice none 0 0] m) 32)) (Obj.cells #[.int .i64 kd, .int .i64 sz, .int .i64 mx, .slice (some ⟨w.heap.size + 1, 0, none⟩) m m, .slice (some ⟨w.heap.size, 0, none⟩) m m, .int .i64 0] 91)
    rw [e] at this
    exact this
/-- The numbers below k, in m slots. -/
def numk (m k : Nat) : List (Option (List Int)) := (List.range m).map fun (i : Nat) => if i < k then some [(i : Int), 0, 0, 0] else none
theorem numk_zero (m : Nat) : numk m 0 = List.replicate m none := by
  unfold numk
  refine List.ext_getElem? fun i => ?_
  rw [List.getElem?_map, List.getElem?_replicate]
  by_cases h : i < m
  · rw [List.getElem?_range h, if_pos h]; rfl
  · rw [List.getElem?_eq_none (by simp; omega), if_neg h]; rfl
theorem numk_len (m k : Nat) : (numk m k).length = m := by simp [numk]
theorem numk_set (m k : Nat) : (numk m k).set k (some [(k : Int), 0, 0, 0]) = numk m (k + 1) := by
  refine List.ext_getElem? fun i => ?_
  by_cases hi : i < m
  · by_cases h : k = i
    · subst h
      rw [List.getElem?_set_self (by rw [numk_len]; exact hi)]
      unfold numk
      rw [List.getElem?_map, List.getElem?_range hi]
      simp
    · rw [List.getElem?_set_ne h]
      unfold numk
      rw [List.getElem?_map, List.getElem?_map, List.getElem?_range hi]
      simp only [Option.map_some]
      by_cases h2 : i < k
      · rw [if_pos h2, if_pos (by omega)]
      · rw [if_neg h2, if_neg (by omega)]
  · rw [List.getElem?_eq_none (by rw [List.length_set, numk_len]; omega), List.getElem?_eq_none (by rw [numk_len]; omega)]
theorem New0_bad (m : Int) (w : World) (h : m < 1 ∨ m > 64) :
    Calls Try.prog 18 #[.int .i64 0, .int .i64 4, .int .i64 m] w fun e w' => e = .returned (.tuple #[.pointer none, .bool false]) ∧ w = w' := by
  by_cases h1 : m < 1
  · clear h
    go_enter Try.func18, Try.ntmps18
    go_wp2
    go_ret2
    exact ⟨rfl, rfl⟩
  · skip
    have h2 : m > 64 := by omega
    clear h
    go_enter Try.func18, Try.ntmps18
    go_wp2
    go_ret2
    exact ⟨rfl, rfl⟩
theorem New1_bad (sz : Int) (m : Int) (w : World) (h : m < 1 ∨ m > 64 ∨ sz < 1 ∨ sz > 16) :
    Calls Try.prog 18 #[.int .i64 1, .int .i64 sz, .int .i64 m] w fun e w' => e = .returned (.tuple #[.pointer none, .bool false]) ∧ w = w' := by
  by_cases h1 : m < 1
  · clear h
    go_enter Try.func18, Try.ntmps18
    go_wp2
    go_ret2
    exact ⟨rfl, rfl⟩
  · skip
    by_cases h2 : m > 64
    · clear h
      go_enter Try.func18, Try.ntmps18
      go_wp2
      go_ret2
      exact ⟨rfl, rfl⟩
    · skip
      by_cases h3 : sz < 1
      · clear h
        go_enter Try.func18, Try.ntmps18
        go_wp2
        go_ret2
        exact ⟨rfl, rfl⟩
      · skip
        have h4 : sz > 16 := by omega
        clear h
        go_enter Try.func18, Try.ntmps18
        go_wp2
        go_ret2
        exact ⟨rfl, rfl⟩
theorem New2_bad (sz : Int) (m : Int) (w : World) (h : m < 1 ∨ m > 64 ∨ sz < 1 ∨ sz > 16) :
    Calls Try.prog 18 #[.int .i64 2, .int .i64 sz, .int .i64 m] w fun e w' => e = .returned (.tuple #[.pointer none, .bool false]) ∧ w = w' := by
  by_cases h1 : m < 1
  · clear h
    go_enter Try.func18, Try.ntmps18
    go_wp2
    go_ret2
    exact ⟨rfl, rfl⟩
  · skip
    by_cases h2 : m > 64
    · clear h
      go_enter Try.func18, Try.ntmps18
      go_wp2
      go_ret2
      exact ⟨rfl, rfl⟩
    · skip
      by_cases h3 : sz < 1
      · clear h
        go_enter Try.func18, Try.ntmps18
        go_wp2
        go_ret2
        exact ⟨rfl, rfl⟩
      · skip
        have h4 : sz > 16 := by omega
        clear h
        go_enter Try.func18, Try.ntmps18
        go_wp2
        go_ret2
        exact ⟨rfl, rfl⟩
theorem New3_bad (sz : Int) (m : Int) (w : World) (h : m < 1 ∨ m > 64 ∨ sz < 5 ∨ sz > 16) :
    Calls Try.prog 18 #[.int .i64 3, .int .i64 sz, .int .i64 m] w fun e w' => e = .returned (.tuple #[.pointer none, .bool false]) ∧ w = w' := by
  by_cases h1 : m < 1
  · clear h
    go_enter Try.func18, Try.ntmps18
    go_wp2
    go_ret2
    exact ⟨rfl, rfl⟩
  · skip
    by_cases h2 : m > 64
    · clear h
      go_enter Try.func18, Try.ntmps18
      go_wp2
      go_ret2
      exact ⟨rfl, rfl⟩
    · skip
      by_cases h3 : sz < 5
      · clear h
        go_enter Try.func18, Try.ntmps18
        go_wp2
        go_ret2
        exact ⟨rfl, rfl⟩
      · skip
        have h4 : sz > 16 := by omega
        clear h
        go_enter Try.func18, Try.ntmps18
        go_wp2
        go_ret2
        exact ⟨rfl, rfl⟩
set_option maxHeartbeats 2000000 in
theorem New0_ok (m : Nat) (w : World) (h1 : 1 ≤ m) (h2 : m ≤ 64) :
    Calls Try.prog 18 #[.int .i64 0, .int .i64 4, .int .i64 (m : Int)] w fun e w' => ∃ F g gs gw, e = .returned (.tuple #[.pointer (some ⟨g, 0, none⟩), .bool true]) ∧ RIx w' F g gs gw 0 4 m 0 (numk m m) (List.replicate m 0) ∧ (∀ b, F b → w.heap.size ≤ b) ∧ Below w.heap.size w w' := by
  obtain ⟨i1, hi1, hz1, hs1, hb1⟩ := info_parts (P := Try.prog) (e := 32) (z := .slice none 0 0) (size := 1) (bytes := 24) (by kernel_rfl)
  obtain ⟨i2, hi2, hz2, hs2, hb2⟩ := info_parts (P := Try.prog) (e := 3) (z := .int .i64 0) (size := 1) (bytes := 8) (by kernel_rfl)
  have hm1 : ∀ W, (Instr.makeSlice 38 (.int .i64 m) (.int .i64 m)).run Try.prog W = .ok (.slice (some ⟨W.heap.size, 0, none⟩) m m) (W.alloc (.cells (madeCells #[.slice none 0 0] m) 32)) := by
    intro W
    have := run_makeSlice (P := Try.prog) W 38 32 i1 (.slice none 0 0) Try.underlying38 hi1 hz1 .i64 .i64 m m (by omega) (by omega) (by rw [hs1]; omega) (by rw [hb1]; omega) (by omega)
    rw [hs1, Int.toNat_natCast, Nat.mul_one] at this
    exact this
  have hm2 : ∀ W, (Instr.makeSlice 89 (.int .i64 m) (.int .i64 m)).run Try.prog W = .ok (.slice (some ⟨W.heap.size, 0, none⟩) m m) (W.alloc (.cells (madeCells #[.int .i64 0] m) 3)) := by
    intro W
    have := run_makeSlice (P := Try.prog) W 89 3 i2 (.int .i64 0) Try.underlying89 hi2 hz2 .i64 .i64 m m (by omega) (by omega) (by rw [hs2]; omega) (by rw [hb2]; omega) (by omega)
    rw [hs2, Int.toNat_natCast, Nat.mul_one] at this
    exact this
  have hB0 := Below.refl w.heap.size w
  clear hi1 hi2 hz1 hz2 hs1 hs2 hb1 hb2
  go_enter Try.func18, Try.ntmps18
  go_wp2
  go_region
  all_goals clear hm1 hm2
  · have HR : Hid (∃ F, RIx _ F (w.heap.size + 1 + 1) (w.heap.size) (w.heap.size + 1) 0 4 m 0 (numk m 0) (List.replicate m 0) ∧ ∀ b, F b → w.heap.size ≤ b) := Lib.hid ⟨_, (numk_zero m).symm ▸ made_ab (w := w) (m := m) 0 4 m (by omega) (by omega), by omega⟩
    have HB : Hid (Below w.heap.size w _) := Lib.hid ((((hB0.alloc (Nat.le_refl _) (Obj.cells (madeCells #[.slice none 0 0] m) 32)).alloc (by simp) (Obj.cells (madeCells #[.int .i64 0] m) 3)).alloc (by simp; omega) (Obj.cells #[.int .i64 0, .int .i64 4, .int .i64 (m : Int), .slice (some ⟨w.heap.size, 0, none⟩) m m, .slice (some ⟨w.heap.size + 1, 0, none⟩) m m, .int .i64 0] 91)).drew)
    clear hB0
    go_wp2
    go_loopw [11] (fun i wr => ∃ k : Nat, k ≤ m ∧ i = .int .i64 (k : Int) ∧ Hid (∃ F, RIx wr F (w.heap.size + 1 + 1) (w.heap.size) (w.heap.size + 1) 0 4 m 0 (numk m k) (List.replicate m 0) ∧ ∀ b, F b → w.heap.size ≤ b) ∧ Hid (Below w.heap.size w wr)) (fun i _ => m - (intOf i).toNat)
    case atStart => exact ⟨0, Nat.zero_le _, rfl, HR, HB⟩
    case round =>
      clear HR HB
      obtain ⟨k, hk, rfl, HR, HB⟩ := hrel
      by_cases hlt : k < m
      · obtain ⟨F, hRF, hFB⟩ := HR.out
        have HRF := Lib.hid hRF; have HFB := Lib.hid hFB
        obtain ⟨c1, c2, g0, g1, g2, g3, g4, g5, gf, hc1, hc2⟩ := hRF.cells
        rw [numk_len] at g3 g4 hc1 hc2
        obtain ⟨vs, hv, hr, hkv⟩ := hRF.row
        rw [numk_len] at hv
        have HRW := Lib.hid hr
        have s0 := hr.cell k (by omega)
        generalize vs[k]'(by omega) = u at s0
        have s1 := hr.frozen k
        have HKB := Lib.hid HB.out.size
        have HV := Lib.hid hv
        clear g0 g1 g2 g4 g5 gf hc1 hc2 hkv hr hv h1 hRF hFB HR
        go_wp2
        go_region_with (go_at_call 57; refine (bytes_ k (by omega) _ _ ?hz).mono ?_; (case hz => first | rfl | (rw [IntKind.wrap_u64]; omega)); rintro e w7 ⟨b7, c7, rfl, k1, k2, k3, hb7⟩; have g3' := old hb7 (show wr.drew.cell? _ = _ from g3); have s0' := old hb7 (show wr.drew.cell? _ = _ from s0); have s1' := (oldf hb7 HRW.out k); have HV7 := Lib.hid (And.intro k1 (And.intro k2 k3)); have HB7 := Lib.hid hb7; clear k1 k2 k3 hb7)
        all_goals
          have hin := HRF.out.inF
          have HR2 : Hid (∃ F, RIx (w7.setCell ⟨w.heap.size, k, none⟩ (.slice (some ⟨b7, 0, none⟩) 4 c7)) F (w.heap.size + 1 + 1) (w.heap.size) (w.heap.size + 1) 0 4 m 0 (numk m (k + 1)) (List.replicate m 0) ∧ ∀ b, F b → w.heap.size ≤ b) := Lib.hid ⟨fun b => F b ∨ b = b7, numk_set m k ▸ ((RIx.below (w' := w7) (w := wr.drew) (HRF.out.keep (fun _ _ => rfl) (Nat.le_refl _)) HB7.out).mono (F' := fun b => F b ∨ b = b7) (fun b hb => .inl hb) (fun b hb => hb.elim (fun hb => Nat.lt_of_lt_of_le (HRF.out.lt b hb) HB7.out.size) (fun e => e ▸ HV7.out.2.2.lt))).key k (by rw [numk_len]; exact hlt) _ (some [(k : Int), 0, 0, 0]) ⟨b7, c7, rfl, HV7.out.1, .inr rfl, HV7.out.2.2⟩ (fun l e => by cases e; exact ⟨rfl, fun x hx => by simp at hx; omega⟩), fun b hb => hb.elim (HFB.out b) (fun e => by subst e; exact Nat.le_trans HKB.out HV7.out.2.1)⟩
          have HB2 := Lib.hid ((HB.out.drew.trans (HB7.out.mono HKB.out)).setCell (p := ⟨w.heap.size, k, none⟩) (HFB.out _ hin.2.1) (.slice (some ⟨b7, 0, none⟩) 4 c7))
          clear s0 s1 g3 s0' s1' g3' HV7 HB7 HRF HB HRW HV HKB HFB hin
          go_wp2
          go_roundw
          case rel => exact ⟨k + 1, by omega, by go_num, HR2, HB2⟩
          case measure => simp [intOf]; omega
      · obtain rfl : k = m := by omega
        obtain ⟨F, h1, h2⟩ := HR.out
        go_wp2
        go_ret2
        exact ⟨F, _, _, _, rfl, h1, h2, HB.out⟩
  · have HR : Hid (∃ F, RIx _ F (w.heap.size + 1 + 1) (w.heap.size + 1) (w.heap.size) 0 4 m 0 (numk m 0) (List.replicate m 0) ∧ ∀ b, F b → w.heap.size ≤ b) := Lib.hid ⟨_, (numk_zero m).symm ▸ made_ba (w := w) (m := m) 0 4 m (by omega) (by omega), by omega⟩
    have HB : Hid (Below w.heap.size w _) := Lib.hid ((((hB0.alloc (Nat.le_refl _) (Obj.cells (madeCells #[.int .i64 0] m) 3)).alloc (by simp) (Obj.cells (madeCells #[.slice none 0 0] m) 32)).alloc (by simp; omega) (Obj.cells #[.int .i64 0, .int .i64 4, .int .i64 (m : Int), .slice (some ⟨w.heap.size + 1, 0, none⟩) m m, .slice (some ⟨w.heap.size, 0, none⟩) m m, .int .i64 0] 91)).drew)
    clear hB0
    go_wp2
    go_loopw [11] (fun i wr => ∃ k : Nat, k ≤ m ∧ i = .int .i64 (k : Int) ∧ Hid (∃ F, RIx wr F (w.heap.size + 1 + 1) (w.heap.size + 1) (w.heap.size) 0 4 m 0 (numk m k) (List.replicate m 0) ∧ ∀ b, F b → w.heap.size ≤ b) ∧ Hid (Below w.heap.size w wr)) (fun i _ => m - (intOf i).toNat)
    case atStart => exact ⟨0, Nat.zero_le _, rfl, HR, HB⟩
    case round =>
      clear HR HB
      obtain ⟨k, hk, rfl, HR, HB⟩ := hrel
      by_cases hlt : k < m
      · obtain ⟨F, hRF, hFB⟩ := HR.out
        have HRF := Lib.hid hRF; have HFB := Lib.hid hFB
        obtain ⟨c1, c2, g0, g1, g2, g3, g4, g5, gf, hc1, hc2⟩ := hRF.cells
        rw [numk_len] at g3 g4 hc1 hc2
        obtain ⟨vs, hv, hr, hkv⟩ := hRF.row
        rw [numk_len] at hv
        have HRW := Lib.hid hr
        have s0 := hr.cell k (by omega)
        generalize vs[k]'(by omega) = u at s0
        have s1 := hr.frozen k
        have HKB := Lib.hid HB.out.size
        have HV := Lib.hid hv
        clear g0 g1 g2 g4 g5 gf hc1 hc2 hkv hr hv h1 hRF hFB HR
        go_wp2
        go_region_with (go_at_call 57; refine (bytes_ k (by omega) _ _ ?hz).mono ?_; (case hz => first | rfl | (rw [IntKind.wrap_u64]; omega)); rintro e w7 ⟨b7, c7, rfl, k1, k2, k3, hb7⟩; have g3' := old hb7 (show wr.drew.cell? _ = _ from g3); have s0' := old hb7 (show wr.drew.cell? _ = _ from s0); have s1' := (oldf hb7 HRW.out k); have HV7 := Lib.hid (And.intro k1 (And.intro k2 k3)); have HB7 := Lib.hid hb7; clear k1 k2 k3 hb7)
        all_goals
          have hin := HRF.out.inF
          have HR2 : Hid (∃ F, RIx (w7.setCell ⟨w.heap.size + 1, k, none⟩ (.slice (some ⟨b7, 0, none⟩) 4 c7)) F (w.heap.size + 1 + 1) (w.heap.size + 1) (w.heap.size) 0 4 m 0 (numk m (k + 1)) (List.replicate m 0) ∧ ∀ b, F b → w.heap.size ≤ b) := Lib.hid ⟨fun b => F b ∨ b = b7, numk_set m k ▸ ((RIx.below (w' := w7) (w := wr.drew) (HRF.out.keep (fun _ _ => rfl) (Nat.le_refl _)) HB7.out).mono (F' := fun b => F b ∨ b = b7) (fun b hb => .inl hb) (fun b hb => hb.elim (fun hb => Nat.lt_of_lt_of_le (HRF.out.lt b hb) HB7.out.size) (fun e => e ▸ HV7.out.2.2.lt))).key k (by rw [numk_len]; exact hlt) _ (some [(k : Int), 0, 0, 0]) ⟨b7, c7, rfl, HV7.out.1, .inr rfl, HV7.out.2.2⟩ (fun l e => by cases e; exact ⟨rfl, fun x hx => by simp at hx; omega⟩), fun b hb => hb.elim (HFB.out b) (fun e => by subst e; exact Nat.le_trans HKB.out HV7.out.2.1)⟩
          have HB2 := Lib.hid ((HB.out.drew.trans (HB7.out.mono HKB.out)).setCell (p := ⟨w.heap.size + 1, k, none⟩) (HFB.out _ hin.2.1) (.slice (some ⟨b7, 0, none⟩) 4 c7))
          clear s0 s1 g3 s0' s1' g3' HV7 HB7 HRF HB HRW HV HKB HFB hin
          go_wp2
          go_roundw
          case rel => exact ⟨k + 1, by omega, by go_num, HR2, HB2⟩
          case measure => simp [intOf]; omega
      · obtain rfl : k = m := by omega
        obtain ⟨F, h1, h2⟩ := HR.out
        go_wp2
        go_ret2
        exact ⟨F, _, _, _, rfl, h1, h2, HB.out⟩
set_option maxHeartbeats 2000000 in
theorem New1_ok (sz : Int) (m : Nat) (w : World) (hs1 : 1 ≤ sz) (hs2 : sz ≤ 16) (h1 : 1 ≤ m) (h2 : m ≤ 64) :
    Calls Try.prog 18 #[.int .i64 1, .int .i64 sz, .int .i64 (m : Int)] w fun e w' => ∃ F g gs gw, e = .returned (.tuple #[.pointer (some ⟨g, 0, none⟩), .bool true]) ∧ RIx w' F g gs gw 1 sz m 0 (List.replicate m none) (List.replicate m 0) ∧ (∀ b, F b → w.heap.size ≤ b) ∧ Below w.heap.size w w' := by
  obtain ⟨i1, hi1, hz1, hs1, hb1⟩ := info_parts (P := Try.prog) (e := 32) (z := .slice none 0 0) (size := 1) (bytes := 24) (by kernel_rfl)
  obtain ⟨i2, hi2, hz2, hs2, hb2⟩ := info_parts (P := Try.prog) (e := 3) (z := .int .i64 0) (size := 1) (bytes := 8) (by kernel_rfl)
  have hm1 : ∀ W, (Instr.makeSlice 38 (.int .i64 m) (.int .i64 m)).run Try.prog W = .ok (.slice (some ⟨W.heap.size, 0, none⟩) m m) (W.alloc (.cells (madeCells #[.slice none 0 0] m) 32)) := by
    intro W
    have := run_makeSlice (P := Try.prog) W 38 32 i1 (.slice none 0 0) Try.underlying38 hi1 hz1 .i64 .i64 m m (by omega) (by omega) (by rw [hs1]; omega) (by rw [hb1]; omega) (by omega)
    rw [hs1, Int.toNat_natCast, Nat.mul_one] at this
    exact this
  have hm2 : ∀ W, (Instr.makeSlice 89 (.int .i64 m) (.int .i64 m)).run Try.prog W = .ok (.slice (some ⟨W.heap.size, 0, none⟩) m m) (W.alloc (.cells (madeCells #[.int .i64 0] m) 3)) := by
    intro W
    have := run_makeSlice (P := Try.prog) W 89 3 i2 (.int .i64 0) Try.underlying89 hi2 hz2 .i64 .i64 m m (by omega) (by omega) (by rw [hs2]; omega) (by rw [hb2]; omega) (by omega)
    rw [hs2, Int.toNat_natCast, Nat.mul_one] at this
    exact this
  have hB0 := Below.refl w.heap.size w
  clear hi1 hi2 hz1 hz2 hs1 hs2 hb1 hb2
  go_enter Try.func18, Try.ntmps18
  go_wp2
  go_region
  all_goals clear hm1 hm2
  · have HR := Lib.hid (made_ab (w := w) (m := m) 1 sz m (by omega) (by omega))
    have HB : Hid (Below w.heap.size w _) := Lib.hid ((((hB0.alloc (Nat.le_refl _) (Obj.cells (madeCells #[.slice none 0 0] m) 32)).alloc (by simp) (Obj.cells (madeCells #[.int .i64 0] m) 3)).alloc (by simp; omega) (Obj.cells #[.int .i64 1, .int .i64 sz, .int .i64 (m : Int), .slice (some ⟨w.heap.size, 0, none⟩) m m, .slice (some ⟨w.heap.size + 1, 0, none⟩) m m, .int .i64 0] 91)).drew)
    clear hB0
    go_wp2
    go_loopw [11] (fun i wr => i = .int .i64 0 ∧ Hid (RIx wr (fun b => b = w.heap.size + 1 + 1 ∨ b = w.heap.size ∨ b = w.heap.size + 1) (w.heap.size + 1 + 1) (w.heap.size) (w.heap.size + 1) 1 sz m 0 (List.replicate m none) (List.replicate m 0)) ∧ Hid (Below w.heap.size w wr)) (fun i _ => 0)
    case atStart => exact ⟨rfl, HR, HB⟩
    case round =>
      clear HR HB
      obtain ⟨rfl, HR, HB⟩ := hrel
      go_wp2
      go_ret2
      exact ⟨_, _, _, _, rfl, HR.out, by omega, HB.out⟩
  · have HR := Lib.hid (made_ba (w := w) (m := m) 1 sz m (by omega) (by omega))
    have HB : Hid (Below w.heap.size w _) := Lib.hid ((((hB0.alloc (Nat.le_refl _) (Obj.cells (madeCells #[.int .i64 0] m) 3)).alloc (by simp) (Obj.cells (madeCells #[.slice none 0 0] m) 32)).alloc (by simp; omega) (Obj.cells #[.int .i64 1, .int .i64 sz, .int .i64 (m : Int), .slice (some ⟨w.heap.size + 1, 0, none⟩) m m, .slice (some ⟨w.heap.size, 0, none⟩) m m, .int .i64 0] 91)).drew)
    clear hB0
    go_wp2
    go_loopw [11] (fun i wr => i = .int .i64 0 ∧ Hid (RIx wr (fun b => b = w.heap.size + 1 + 1 ∨ b = w.heap.size + 1 ∨ b = w.heap.size) (w.heap.size + 1 + 1) (w.heap.size + 1) (w.heap.size) 1 sz m 0 (List.replicate m none) (List.replicate m 0)) ∧ Hid (Below w.heap.size w wr)) (fun i _ => 0)
    case atStart => exact ⟨rfl, HR, HB⟩
    case round =>
      clear HR HB
      obtain ⟨rfl, HR, HB⟩ := hrel
      go_wp2
      go_ret2
      exact ⟨_, _, _, _, rfl, HR.out, by omega, HB.out⟩
set_option maxHeartbeats 2000000 in
theorem New2_ok (sz : Int) (m : Nat) (w : World) (hs1 : 1 ≤ sz) (hs2 : sz ≤ 16) (h1 : 1 ≤ m) (h2 : m ≤ 64) :
    Calls Try.prog 18 #[.int .i64 2, .int .i64 sz, .int .i64 (m : Int)] w fun e w' => ∃ F g gs gw, e = .returned (.tuple #[.pointer (some ⟨g, 0, none⟩), .bool true]) ∧ RIx w' F g gs gw 2 sz m 0 (List.replicate m none) (List.replicate m 0) ∧ (∀ b, F b → w.heap.size ≤ b) ∧ Below w.heap.size w w' := by
  obtain ⟨i1, hi1, hz1, hs1, hb1⟩ := info_parts (P := Try.prog) (e := 32) (z := .slice none 0 0) (size := 1) (bytes := 24) (by kernel_rfl)
  obtain ⟨i2, hi2, hz2, hs2, hb2⟩ := info_parts (P := Try.prog) (e := 3) (z := .int .i64 0) (size := 1) (bytes := 8) (by kernel_rfl)
  have hm1 : ∀ W, (Instr.makeSlice 38 (.int .i64 m) (.int .i64 m)).run Try.prog W = .ok (.slice (some ⟨W.heap.size, 0, none⟩) m m) (W.alloc (.cells (madeCells #[.slice none 0 0] m) 32)) := by
    intro W
    have := run_makeSlice (P := Try.prog) W 38 32 i1 (.slice none 0 0) Try.underlying38 hi1 hz1 .i64 .i64 m m (by omega) (by omega) (by rw [hs1]; omega) (by rw [hb1]; omega) (by omega)
    rw [hs1, Int.toNat_natCast, Nat.mul_one] at this
    exact this
  have hm2 : ∀ W, (Instr.makeSlice 89 (.int .i64 m) (.int .i64 m)).run Try.prog W = .ok (.slice (some ⟨W.heap.size, 0, none⟩) m m) (W.alloc (.cells (madeCells #[.int .i64 0] m) 3)) := by
    intro W
    have := run_makeSlice (P := Try.prog) W 89 3 i2 (.int .i64 0) Try.underlying89 hi2 hz2 .i64 .i64 m m (by omega) (by omega) (by rw [hs2]; omega) (by rw [hb2]; omega) (by omega)
    rw [hs2, Int.toNat_natCast, Nat.mul_one] at this
    exact this
  have hB0 := Below.refl w.heap.size w
  clear hi1 hi2 hz1 hz2 hs1 hs2 hb1 hb2
  go_enter Try.func18, Try.ntmps18
  go_wp2
  go_region
  all_goals clear hm1 hm2
  · have HR := Lib.hid (made_ab (w := w) (m := m) 2 sz m (by omega) (by omega))
    have HB : Hid (Below w.heap.size w _) := Lib.hid ((((hB0.alloc (Nat.le_refl _) (Obj.cells (madeCells #[.slice none 0 0] m) 32)).alloc (by simp) (Obj.cells (madeCells #[.int .i64 0] m) 3)).alloc (by simp; omega) (Obj.cells #[.int .i64 2, .int .i64 sz, .int .i64 (m : Int), .slice (some ⟨w.heap.size, 0, none⟩) m m, .slice (some ⟨w.heap.size + 1, 0, none⟩) m m, .int .i64 0] 91)).drew)
    clear hB0
    go_wp2
    go_loopw [11] (fun i wr => i = .int .i64 0 ∧ Hid (RIx wr (fun b => b = w.heap.size + 1 + 1 ∨ b = w.heap.size ∨ b = w.heap.size + 1) (w.heap.size + 1 + 1) (w.heap.size) (w.heap.size + 1) 2 sz m 0 (List.replicate m none) (List.replicate m 0)) ∧ Hid (Below w.heap.size w wr)) (fun i _ => 0)
    case atStart => exact ⟨rfl, HR, HB⟩
    case round =>
      clear HR HB
      obtain ⟨rfl, HR, HB⟩ := hrel
      go_wp2
      go_ret2
      exact ⟨_, _, _, _, rfl, HR.out, by omega, HB.out⟩
  · have HR := Lib.hid (made_ba (w := w) (m := m) 2 sz m (by omega) (by omega))
    have HB : Hid (Below w.heap.size w _) := Lib.hid ((((hB0.alloc (Nat.le_refl _) (Obj.cells (madeCells #[.int .i64 0] m) 3)).alloc (by simp) (Obj.cells (madeCells #[.slice none 0 0] m) 32)).alloc (by simp; omega) (Obj.cells #[.int .i64 2, .int .i64 sz, .int .i64 (m : Int), .slice (some ⟨w.heap.size + 1, 0, none⟩) m m, .slice (some ⟨w.heap.size, 0, none⟩) m m, .int .i64 0] 91)).drew)
    clear hB0
    go_wp2
    go_loopw [11] (fun i wr => i = .int .i64 0 ∧ Hid (RIx wr (fun b => b = w.heap.size + 1 + 1 ∨ b = w.heap.size + 1 ∨ b = w.heap.size) (w.heap.size + 1 + 1) (w.heap.size + 1) (w.heap.size) 2 sz m 0 (List.replicate m none) (List.replicate m 0)) ∧ Hid (Below w.heap.size w wr)) (fun i _ => 0)
    case atStart => exact ⟨rfl, HR, HB⟩
    case round =>
      clear HR HB
      obtain ⟨rfl, HR, HB⟩ := hrel
      go_wp2
      go_ret2
      exact ⟨_, _, _, _, rfl, HR.out, by omega, HB.out⟩
set_option maxHeartbeats 2000000 in
theorem New3_ok (sz : Int) (m : Nat) (w : World) (hs1 : 5 ≤ sz) (hs2 : sz ≤ 16) (h1 : 1 ≤ m) (h2 : m ≤ 64) :
    Calls Try.prog 18 #[.int .i64 3, .int .i64 sz, .int .i64 (m : Int)] w fun e w' => ∃ F g gs gw, e = .returned (.tuple #[.pointer (some ⟨g, 0, none⟩), .bool true]) ∧ RIx w' F g gs gw 3 sz m 0 (List.replicate m none) (List.replicate m 0) ∧ (∀ b, F b → w.heap.size ≤ b) ∧ Below w.heap.size w w' := by
  obtain ⟨i1, hi1, hz1, hs1, hb1⟩ := info_parts (P := Try.prog) (e := 32) (z := .slice none 0 0) (size := 1) (bytes := 24) (by kernel_rfl)
  obtain ⟨i2, hi2, hz2, hs2, hb2⟩ := info_parts (P := Try.prog) (e := 3) (z := .int .i64 0) (size := 1) (bytes := 8) (by kernel_rfl)
  have hm1 : ∀ W, (Instr.makeSlice 38 (.int .i64 m) (.int .i64 m)).run Try.prog W = .ok (.slice (some ⟨W.heap.size, 0, none⟩) m m) (W.alloc (.cells (madeCells #[.slice none 0 0] m) 32)) := by
    intro W
    have := run_makeSlice (P := Try.prog) W 38 32 i1 (.slice none 0 0) Try.underlying38 hi1 hz1 .i64 .i64 m m (by omega) (by omega) (by rw [hs1]; omega) (by rw [hb1]; omega) (by omega)
    rw [hs1, Int.toNat_natCast, Nat.mul_one] at this
    exact this
  have hm2 : ∀ W, (Instr.makeSlice 89 (.int .i64 m) (.int .i64 m)).run Try.prog W = .ok (.slice (some ⟨W.heap.size, 0, none⟩) m m) (W.alloc (.cells (madeCells #[.int .i64 0] m) 3)) := by
    intro W
    have := run_makeSlice (P := Try.prog) W 89 3 i2 (.int .i64 0) Try.underlying89 hi2 hz2 .i64 .i64 m m (by omega) (by omega) (by rw [hs2]; omega) (by rw [hb2]; omega) (by omega)
    rw [hs2, Int.toNat_natCast, Nat.mul_one] at this
    exact this
  have hB0 := Below.refl w.heap.size w
  clear hi1 hi2 hz1 hz2 hs1 hs2 hb1 hb2
  go_enter Try.func18, Try.ntmps18
  go_wp2
  go_region
  all_goals clear hm1 hm2
  · have HR := Lib.hid (made_ab (w := w) (m := m) 3 sz m (by omega) (by omega))
    have HB : Hid (Below w.heap.size w _) := Lib.hid ((((hB0.alloc (Nat.le_refl _) (Obj.cells (madeCells #[.slice none 0 0] m) 32)).alloc (by simp) (Obj.cells (madeCells #[.int .i64 0] m) 3)).alloc (by simp; omega) (Obj.cells #[.int .i64 3, .int .i64 sz, .int .i64 (m : Int), .slice (some ⟨w.heap.size, 0, none⟩) m m, .slice (some ⟨w.heap.size + 1, 0, none⟩) m m, .int .i64 0] 91)).drew)
    clear hB0
    go_wp2
    go_loopw [11] (fun i wr => i = .int .i64 0 ∧ Hid (RIx wr (fun b => b = w.heap.size + 1 + 1 ∨ b = w.heap.size ∨ b = w.heap.size + 1) (w.heap.size + 1 + 1) (w.heap.size) (w.heap.size + 1) 3 sz m 0 (List.replicate m none) (List.replicate m 0)) ∧ Hid (Below w.heap.size w wr)) (fun i _ => 0)
    case atStart => exact ⟨rfl, HR, HB⟩
    case round =>
      clear HR HB
      obtain ⟨rfl, HR, HB⟩ := hrel
      go_wp2
      go_ret2
      exact ⟨_, _, _, _, rfl, HR.out, by omega, HB.out⟩
  · have HR := Lib.hid (made_ba (w := w) (m := m) 3 sz m (by omega) (by omega))
    have HB : Hid (Below w.heap.size w _) := Lib.hid ((((hB0.alloc (Nat.le_refl _) (Obj.cells (madeCells #[.int .i64 0] m) 3)).alloc (by simp) (Obj.cells (madeCells #[.slice none 0 0] m) 32)).alloc (by simp; omega) (Obj.cells #[.int .i64 3, .int .i64 sz, .int .i64 (m : Int), .slice (some ⟨w.heap.size + 1, 0, none⟩) m m, .slice (some ⟨w.heap.size, 0, none⟩) m m, .int .i64 0] 91)).drew)
    clear hB0
    go_wp2
    go_loopw [11] (fun i wr => i = .int .i64 0 ∧ Hid (RIx wr (fun b => b = w.heap.size + 1 + 1 ∨ b = w.heap.size + 1 ∨ b = w.heap.size) (w.heap.size + 1 + 1) (w.heap.size + 1) (w.heap.size) 3 sz m 0 (List.replicate m none) (List.replicate m 0)) ∧ Hid (Below w.heap.size w wr)) (fun i _ => 0)
    case atStart => exact ⟨rfl, HR, HB⟩
    case round =>
      clear HR HB
      obtain ⟨rfl, HR, HB⟩ := hrel
      go_wp2
      go_ret2
      exact ⟨_, _, _, _, rfl, HR.out, by omega, HB.out⟩
end Go.Proofs.Ytfbajampfiodeaa.RxNew
