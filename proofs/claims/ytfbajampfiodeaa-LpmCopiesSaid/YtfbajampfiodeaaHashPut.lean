/- hash.Index: Put, Del, New, walked by hand. -/
import Derived.Test.YtfbajampfiodeaaHash
namespace Go.Proofs.Ytfbajampfiodeaa.HashPut
open Go.RowKit Go.Maps Go.Proofs.Ytfbajampfiodeaa.PArrayPlays Go.Proofs.YtfbajampfiodeaaW.PrintWords Go.Proofs.YtfbajampfiodeaaW.PrintLast Go.Proofs.YtfbajampfiodeaaW.PrintMore Go.Proofs.Ytfbajampfiodeaa.Mw Go.Proofs.Ytfbajampfiodeaa.Rx Go.Proofs.Ytfbajampfiodeaa.RxOps Go.Proofs.Ytfbajampfiodeaa.RxPut Go.Proofs.Ytfbajampfiodeaa.RxNew Go.Proofs.Ytfbajampfiodeaa.Hm Go.Proofs.Ytfbajampfiodeaa.Hash
set_option linter.unusedVariables false
section
variable {w w' : World} {F F' : Nat → Prop} {g bm gt ct : Nat} {sz : Int} {ks : List (Option (List Int))}
theorem Put_bad (h : HIx w F g bm gt ct sz ks) (A : Option Addr) (c : Nat) (l : List Int) (f : Int) (hC : Kd.C (Kd.int .u8) w A l.length l) (hlb : Bs l) (hsz : (l.length : Int) ≠ sz) :
    Calls Try.prog 35 #[.pointer (some ⟨g, 0, none⟩), .slice A l.length c, .int .u64 f] w fun e w' => e = .returned (.tuple #[.int .i64 0, .bool false, .int .i64 2]) ∧ w = w' := by
  obtain ⟨c1, g0, g1, g2, hc1⟩ := h.cells
  obtain ⟨D, hD, hm⟩ := h.map
  have hcv := Kd.C_string (P := Try.prog) (A := A) (c := c) Try.underlying32 Try.underlying5 Try.underlying9 (Kd.C_drew hC)
  have hln : ((l.length : Int) != sz) = true := by simpa using hsz
  clear hsz
  clear h hD hm hC g2 hc1 hlb
  go_enter Try.func35, Try.ntmps35
  go_wp2
  go_ret3
  exact ⟨rfl, rfl⟩
theorem Put_flags (h : HIx w F g bm gt ct sz ks) (A : Option Addr) (c : Nat) (l : List Int) (f : Int) (hC : Kd.C (Kd.int .u8) w A l.length l) (hlb : Bs l) (hsz : (l.length : Int) = sz) (hf : f > 2) :
    Calls Try.prog 35 #[.pointer (some ⟨g, 0, none⟩), .slice A l.length c, .int .u64 f] w fun e w' => e = .returned (.tuple #[.int .i64 0, .bool false, .int .i64 72]) ∧ w = w' := by
  obtain ⟨c1, g0, g1, g2, hc1⟩ := h.cells
  obtain ⟨D, hD, hm⟩ := h.map
  have hcv := Kd.C_string (P := Try.prog) (A := A) (c := c) Try.underlying32 Try.underlying5 Try.underlying9 (Kd.C_drew hC)
  have hln : ((l.length : Int) != sz) = false := by simpa using hsz
  clear hsz
  clear h hD hm hC g2 hc1 hlb
  go_enter Try.func35, Try.ntmps35
  go_wp2
  go_ret3
  exact ⟨rfl, rfl⟩
theorem Put_exist (h : HIx w F g bm gt ct sz ks) (A : Option Addr) (c : Nat) (l : List Int) (hC : Kd.C (Kd.int .u8) w A l.length l) (hlb : Bs l) (hsz : (l.length : Int) = sz) (i : Nat) (hs : sameAt l ks 0 = (i : Int)) :
    Calls Try.prog 35 #[.pointer (some ⟨g, 0, none⟩), .slice A l.length c, .int .u64 1] w fun e w' => e = .returned (.tuple #[.int .i64 0, .bool false, .int .i64 70]) ∧ ∃ n, w' = w.drewN n := by
  obtain ⟨c1, g0, g1, g2, hc1⟩ := h.cells
  obtain ⟨D, hD, hm⟩ := h.map
  have hcv := Kd.C_string (P := Try.prog) (A := A) (c := c) Try.underlying32 Try.underlying5 Try.underlying9 (Kd.C_drew hC)
  have hln : ((l.length : Int) != sz) = false := by simpa using hsz
  have hlk := look_hit (w := w.drew) hD hm l hC.2.1 i hs
  clear hsz hs
  clear h hD hm hC g2 hc1 hlb
  go_enter Try.func35, Try.ntmps35
  go_wp2
  go_region
  go_wp2
  go_ret3
  exact ⟨rfl, ⟨_, rfl⟩⟩
theorem Put_again (h : HIx w F g bm gt ct sz ks) (A : Option Addr) (c : Nat) (l : List Int) (f : Int) (hC : Kd.C (Kd.int .u8) w A l.length l) (hlb : Bs l) (hsz : (l.length : Int) = sz) (hf : ¬ f > 2) (hf1 : f ≠ 1) (i : Nat) (hs : sameAt l ks 0 = (i : Int)) :
    Calls Try.prog 35 #[.pointer (some ⟨g, 0, none⟩), .slice A l.length c, .int .u64 f] w fun e w' => e = .returned (.tuple #[.int .i64 (i : Int), .bool false, .int .i64 0]) ∧ ∃ n, w' = w.drewN n := by
  obtain ⟨c1, g0, g1, g2, hc1⟩ := h.cells
  obtain ⟨D, hD, hm⟩ := h.map
  have hcv := Kd.C_string (P := Try.prog) (A := A) (c := c) Try.underlying32 Try.underlying5 Try.underlying9 (Kd.C_drew hC)
  have hln : ((l.length : Int) != sz) = false := by simpa using hsz
  have hlk := look_hit (w := w.drew) hD hm l hC.2.1 i hs
  have bf : (f == 1) = false := by simpa using hf1
  clear hsz hs hf1
  clear h hD hm hC g2 hc1 hlb
  go_enter Try.func35, Try.ntmps35
  go_wp2
  go_region
  go_wp2
  go_ret3
  exact ⟨rfl, ⟨_, rfl⟩⟩
theorem Put_none (h : HIx w F g bm gt ct sz ks) (A : Option Addr) (c : Nat) (l : List Int) (hC : Kd.C (Kd.int .u8) w A l.length l) (hlb : Bs l) (hsz : (l.length : Int) = sz) (hs : sameAt l ks 0 < 0) :
    Calls Try.prog 35 #[.pointer (some ⟨g, 0, none⟩), .slice A l.length c, .int .u64 2] w fun e w' => e = .returned (.tuple #[.int .i64 0, .bool false, .int .i64 14]) ∧ ∃ n, w' = w.drewN n := by
  obtain ⟨c1, g0, g1, g2, hc1⟩ := h.cells
  obtain ⟨D, hD, hm⟩ := h.map
  have hcv := Kd.C_string (P := Try.prog) (A := A) (c := c) Try.underlying32 Try.underlying5 Try.underlying9 (Kd.C_drew hC)
  have hln : ((l.length : Int) != sz) = false := by simpa using hsz
  have hlk := look_miss (w := w.drew) hD hm (fun l hl => (h.ok.kb l hl).2) l hlb hC.2.1 hs
  clear hsz hs
  clear h hD hm hC g2 hc1 hlb
  go_enter Try.func35, Try.ntmps35
  go_wp2
  go_region
  go_wp2
  go_ret3
  exact ⟨rfl, ⟨_, rfl⟩⟩
theorem Put_full (h : HIx w F g bm gt ct sz ks) (A : Option Addr) (c : Nat) (l : List Int) (f : Int) (hC : Kd.C (Kd.int .u8) w A l.length l) (hlb : Bs l) (hsz : (l.length : Int) = sz) (hf : ¬ f > 2) (hf2 : f ≠ 2) (hs : sameAt l ks 0 < 0) (hfree : freeAt ks 0 = -1) :
    Calls Try.prog 35 #[.pointer (some ⟨g, 0, none⟩), .slice A l.length c, .int .u64 f] w fun e w' => e = .returned (.tuple #[.int .i64 0, .bool false, .int .i64 71]) ∧ ∃ n, w' = w.drewN n := by
  obtain ⟨c1, g0, g1, g2, hc1⟩ := h.cells
  obtain ⟨D, hD, hm⟩ := h.map
  have hcv := Kd.C_string (P := Try.prog) (A := A) (c := c) Try.underlying32 Try.underlying5 Try.underlying9 (Kd.C_drew hC)
  have hln : ((l.length : Int) != sz) = false := by simpa using hsz
  have hlk := look_miss (w := w.drew) hD hm (fun l hl => (h.ok.kb l hl).2) l hlb hC.2.1 hs
  have HI := Lib.hid h; have HM := Lib.hid hm; have HLB := Lib.hid hlb; have HC := Lib.hid hC; have HSZ := Lib.hid hsz; have HS := Lib.hid hs
  have bf : (f == 2) = false := by simpa using hf2
  have HFR := Lib.hid hfree
  clear hsz hs hf2 hfree
  clear h hD hm hC g2 hc1 hlb
  go_enter Try.func35, Try.ntmps35
  go_wp2
  go_region
  go_wp2_with fail
  refine (free_ (HI.out.drewN 1)).mono ?_
  rintro e w2 ⟨rfl, rfl⟩
  rw [HFR.out]
  go_wp2
  go_ret3
  exact ⟨rfl, ⟨_, rfl⟩⟩
theorem free_at {ks : List (Option (List Int))} {i : Nat} (h : freeAt ks 0 = (i : Int)) : ks[i]? = some none := by
  have key : ∀ (ks : List (Option (List Int))) (j : Nat), freeAt ks j = (i : Int) → j ≤ i ∧ ks[i - j]? = some none := by
    intro ks
    induction ks with
    | nil => intro j h; simp [freeAt] at h
    | cons k t ih =>
      intro j h
      unfold freeAt at h
      by_cases hk : k = none
      · rw [if_pos hk] at h
        obtain rfl : j = i := by omega
        simp [hk]
      · rw [if_neg hk] at h
        obtain ⟨h1, h2⟩ := ih (j + 1) h
        refine ⟨by omega, ?_⟩
        obtain ⟨d, rfl⟩ : ∃ d, i = j + 1 + d := ⟨i - (j + 1), by omega⟩
        rw [show j + 1 + d - (j + 1) = d by omega] at h2
        rw [show j + 1 + d - j = d + 1 by omega]
        simpa using h2
  have := (key ks 0 h).2
  simpa using this
set_option maxRecDepth 100000 in
theorem Put_new (h : HIx w F g bm gt ct sz ks) (A : Option Addr) (c : Nat) (l : List Int) (f : Int) (hC : Kd.C (Kd.int .u8) w A l.length l) (hlb : Bs l) (hsz : (l.length : Int) = sz) (hf : ¬ f > 2) (hf2 : f ≠ 2) (hct : ct < 1099511627776) (hs : sameAt l ks 0 < 0) (i : Nat) (hfree : freeAt ks 0 = (i : Int)) (hi : i < ks.length) :
    Calls Try.prog 35 #[.pointer (some ⟨g, 0, none⟩), .slice A l.length c, .int .u64 f] w fun e w' => e = .returned (.tuple #[.int .i64 (i : Int), .bool true, .int .i64 0]) ∧ HIx w' F g bm gt (ct + 1) sz (ks.set i (some l)) ∧ Step w w' F F := by
  obtain ⟨c1, g0, g1, g2, hc1⟩ := h.cells
  obtain ⟨D, hD, hm⟩ := h.map
  have hcv := Kd.C_string (P := Try.prog) (A := A) (c := c) Try.underlying32 Try.underlying5 Try.underlying9 (Kd.C_drew hC)
  have hln : ((l.length : Int) != sz) = false := by simpa using hsz
  have hlk := look_miss (w := w.drew) hD hm (fun l hl => (h.ok.kb l hl).2) l hlb hC.2.1 hs
  have HI := Lib.hid h; have HM := Lib.hid hm; have HLB := Lib.hid hlb; have HC := Lib.hid hC; have HSZ := Lib.hid hsz; have HS := Lib.hid hs
  have bf : (f == 2) = false := by simpa using hf2
  have HFR := Lib.hid hfree
  have HIK := Lib.hid hi
  have HCT := Lib.hid hct
  clear hsz hs hf2 hfree hi hct
  clear h hD hm hC g2 hc1 hlb
  go_enter Try.func35, Try.ntmps35
  go_wp2
  go_region
  go_wp2_with fail
  refine (free_ (HI.out.drewN 1)).mono ?_
  rintro e w2 ⟨rfl, rfl⟩
  rw [HFR.out]
  have hcv2 := Kd.C_string (P := Try.prog) (A := A) (c := c) Try.underlying32 Try.underlying5 Try.underlying9 (Kd.C_drewN HC.out 2)
  obtain ⟨D, hD, hm⟩ := (HI.out.drewN 2).map
  have hfr : ks[i]? = some none := free_at HFR.out
  obtain ⟨w1, hrun, hD1, hg1⟩ := hD.update law Try.underlying99 (by have := HCT.out; unfold maxLen; omega) (klit_key l HC.out.2.1) (plainElem_int (a := (i : Int)) Try.underlying3 (Go.WalkArith.wf_i64 (by have := HIK.out; have := HI.out.ok.len; omega)))
  obtain ⟨hI2, hS2, r1, ⟨c2, r2, rc⟩, r3, r4⟩ := (HI.out.drewN 2).turn hg1 i HIK.out (some l) (fun l' e => by cases e; exact ⟨HSZ.out, HLB.out⟩) hD1 (hm.put hD.isMap (fun l hl => (HI.out.ok.kb l hl).2) HLB.out HS.out HIK.out hfr)
  have HI2 := Lib.hid hI2; have HS2 := Lib.hid hS2
  have hi := HIK.out
  generalize (ks[i]'HIK.out).isSome = b at r3
  clear hD hm hfr hD1 hg1 hI2 hS2
  go_wp2
  go_region
  go_wp2
  go_ret3
  exact ⟨rfl, HI2.out.drewN 0, HS2.out.undrewN⟩
theorem Del_bad (h : HIx w F g bm gt ct sz ks) (A : Option Addr) (c : Nat) (l : List Int) (hC : Kd.C (Kd.int .u8) w A l.length l) (hlb : Bs l) (hsz : (l.length : Int) ≠ sz) :
    Calls Try.prog 34 #[.pointer (some ⟨g, 0, none⟩), .slice A l.length c] w fun e w' => e = .returned (.tuple #[.int .i64 0, .int .i64 2]) ∧ w = w' := by
  obtain ⟨c1, g0, g1, g2, hc1⟩ := h.cells
  obtain ⟨D, hD, hm⟩ := h.map
  have hcv := Kd.C_string (P := Try.prog) (A := A) (c := c) Try.underlying32 Try.underlying5 Try.underlying9 (Kd.C_drew hC)
  have hln : ((l.length : Int) != sz) = true := by simpa using hsz
  clear hsz
  clear h hD hm hC g2 hc1 hlb
  go_enter Try.func34, Try.ntmps34
  go_wp2
  go_ret2
  exact ⟨rfl, rfl⟩
theorem Del_none (h : HIx w F g bm gt ct sz ks) (A : Option Addr) (c : Nat) (l : List Int) (hC : Kd.C (Kd.int .u8) w A l.length l) (hlb : Bs l) (hsz : (l.length : Int) = sz) (hs : sameAt l ks 0 < 0) :
    Calls Try.prog 34 #[.pointer (some ⟨g, 0, none⟩), .slice A l.length c] w fun e w' => e = .returned (.tuple #[.int .i64 0, .int .i64 14]) ∧ ∃ n, w' = w.drewN n := by
  obtain ⟨c1, g0, g1, g2, hc1⟩ := h.cells
  obtain ⟨D, hD, hm⟩ := h.map
  have hcv := Kd.C_string (P := Try.prog) (A := A) (c := c) Try.underlying32 Try.underlying5 Try.underlying9 (Kd.C_drew hC)
  have hln : ((l.length : Int) != sz) = false := by simpa using hsz
  have hlk := look_miss (w := w.drew) hD hm (fun l hl => (h.ok.kb l hl).2) l hlb hC.2.1 hs
  clear hsz hs
  clear h hD hm hC g2 hc1 hlb
  go_enter Try.func34, Try.ntmps34
  go_wp2
  go_region
  go_wp2
  go_ret2
  exact ⟨rfl, ⟨_, rfl⟩⟩
set_option maxRecDepth 100000 in
theorem Del_ (h : HIx w F g bm gt ct sz ks) (A : Option Addr) (c : Nat) (l : List Int) (hC : Kd.C (Kd.int .u8) w A l.length l) (hlb : Bs l) (hsz : (l.length : Int) = sz) (i : Nat) (hs : sameAt l ks 0 = (i : Int)) (hi : i < ks.length) :
    Calls Try.prog 34 #[.pointer (some ⟨g, 0, none⟩), .slice A l.length c] w fun e w' => e = .returned (.tuple #[.int .i64 (i : Int), .int .i64 0]) ∧ HIx w' F g bm gt ct sz (ks.set i none) ∧ Step w w' F F := by
  obtain ⟨c1, g0, g1, g2, hc1⟩ := h.cells
  obtain ⟨D, hD, hm⟩ := h.map
  have hcv := Kd.C_string (P := Try.prog) (A := A) (c := c) Try.underlying32 Try.underlying5 Try.underlying9 (Kd.C_drew hC)
  have hln : ((l.length : Int) != sz) = false := by simpa using hsz
  have hlk := look_hit (w := w.drew) hD hm l hC.2.1 i hs
  have hcv2 := Kd.C_string (P := Try.prog) (A := A) (c := c) Try.underlying32 Try.underlying5 Try.underlying9 (Kd.C_drew (Kd.C_drew hC))
  have h2 : HIx w.drew.drew F g bm gt ct sz ks := h.drewN 2
  obtain ⟨D2, hD2, hm2⟩ := h2.map
  obtain ⟨w1, hrun, hD1, hg1⟩ := hD2.drop law Try.underlying99 (klit_key l hC.2.1) 0
  obtain ⟨hI2, hS2, r1, ⟨c2, r2, rc⟩, r3, r4⟩ := h2.turn hg1.grown i hi none (fun l' e => by cases e) hD1 (hm2.del (fun l hl => (h.ok.kb l hl).2) (same_some hs))
  have HI2 := Lib.hid hI2; have HS2 := Lib.hid hS2
  generalize (ks[i]'hi).isSome = b at r3
  clear h2 hD2 hm2 hD1 hg1 hI2 hS2
  clear hsz hs
  clear h hD hm hC g2 hc1 hlb
  go_enter Try.func34, Try.ntmps34
  go_wp2
  go_region
  go_wp2
  go_region
  go_wp2
  go_ret2
  exact ⟨rfl, HI2.out, Step.undrewN (n := 2) HS2.out⟩
theorem made_tk (m : Nat) : (madeCells #[.bool false] m).toList = (List.replicate m (none : Option (List Int))).map fun k => .bool k.isSome := by
  rw [made_rep]
  simp
theorem New_ok (s : Int) (m : Nat) (w : World) (hs1 : 1 ≤ s) (hs2 : s ≤ 16) (h1 : 1 ≤ m) (h2 : m ≤ 64) :
    Calls Try.prog 29 #[.int .i64 s, .int .i64 (m : Int)] w fun e w' => ∃ F g bm gt, e = .returned (.tuple #[.pointer (some ⟨g, 0, none⟩), .int .i64 0]) ∧ HIx w' F g bm gt 0 s (List.replicate m none) ∧ (∀ b, F b → w.heap.size ≤ b) ∧ Below w.heap.size w w' := by
  obtain ⟨i1, hi1, hz1, hs1', hb1⟩ := info_parts (P := Try.prog) (e := 4) (z := .bool false) (size := 1) (bytes := 1) (by kernel_rfl)
  have hm1 : ∀ W, (Instr.makeSlice 58 (.int .i64 m) (.int .i64 m)).run Try.prog W = .ok (.slice (some ⟨W.heap.size, 0, none⟩) m m) (W.alloc (.cells (madeCells #[.bool false] m) 4)) := by
    intro W
    have := run_makeSlice (P := Try.prog) W 58 4 i1 (.bool false) Try.underlying58 hi1 hz1 .i64 .i64 m m (by omega) (by omega) (by rw [hs1']; omega) (by rw [hb1]; omega) (by omega)
    rw [hs1', Int.toNat_natCast, Nat.mul_one] at this
    exact this
  have hmm := @run_makeMap Try.prog
  clear hi1 hz1 hs1' hb1
  go_enter Try.func29, Try.ntmps29
  go_wp2
  go_ret2
  have b0 : (((w.alloc (Obj.map #[] 0)).alloc (Obj.cells (madeCells #[.bool false] m) 4)).alloc (Obj.cells #[.int .i64 s, .map (some w.heap.size), .slice (some ⟨w.heap.size + 1, 0, none⟩) m m] 101)).heap[w.heap.size + 1]? = some (.cells (madeCells #[.bool false] m) 4 (0, 0)) := by
    have := heap_alloc_new (w.alloc (Obj.map #[] 0)) (Obj.cells (madeCells #[.bool false] m) 4)
    exact blk_alloc (by simpa using this) _
  have b1 : (((w.alloc (Obj.map #[] 0)).alloc (Obj.cells (madeCells #[.bool false] m) 4)).alloc (Obj.cells #[.int .i64 s, .map (some w.heap.size), .slice (some ⟨w.heap.size + 1, 0, none⟩) m m] 101)).heap[w.heap.size + 1 + 1]? = some (.cells #[.int .i64 s, .map (some w.heap.size), .slice (some ⟨w.heap.size + 1, 0, none⟩) m m] 101 (0, 0)) := by
    have := heap_alloc_new ((w.alloc (Obj.map #[] 0)).alloc (Obj.cells (madeCells #[.bool false] m) 4)) (Obj.cells #[.int .i64 s, .map (some w.heap.size), .slice (some ⟨w.heap.size + 1, 0, none⟩) m m] 101)
    simpa using this
  have hmade := ((World.ownsMap_made w Try.prog 9 (plainElem (H := Unit) Try.prog 3)).alloc (Obj.cells (madeCells #[.bool false] m) 4)).alloc (Obj.cells #[.int .i64 s, .map (some w.heap.size), .slice (some ⟨w.heap.size + 1, 0, none⟩) m m] 101)
  refine ⟨fun b => b = w.heap.size ∨ b = w.heap.size + 1 ∨ b = w.heap.size + 1 + 1, _, _, _, rfl, ⟨⟨m, by rw [List.length_replicate]; exact b1, by simp⟩, ⟨_, hmade, MapIs.empty m⟩, Row.of b0 (made_tk m), ⟨.inr (.inr rfl), .inl rfl, .inr (.inl rfl)⟩, ?_, ⟨by simp; omega, by omega, fun l hl => absurd (List.eq_of_mem_replicate hl) (by simp)⟩⟩, by omega, ?_⟩
  · intro b hb
    simp
    omega
  · exact below_alloc (below_alloc (below_alloc (Below.refl _ _) _) _) _
end
end Go.Proofs.Ytfbajampfiodeaa.HashPut
