/- lru.Index: Put, Del, New, walked by hand. -/
import Derived.Test.YtfbajampfiodeaaLruA
namespace Go.Proofs.Ytfbajampfiodeaa.Lru
open Go.RowKit Go.Maps Go.Proofs.Ytfbajampfiodeaa.PArrayPlays Go.Proofs.YtfbajampfiodeaaW.PrintWords Go.Proofs.YtfbajampfiodeaaW.PrintLast Go.Proofs.YtfbajampfiodeaaW.PrintMore Go.Proofs.Ytfbajampfiodeaa.Mw Go.Proofs.Ytfbajampfiodeaa.Rx Go.Proofs.Ytfbajampfiodeaa.RxOps Go.Proofs.Ytfbajampfiodeaa.RxPut Go.Proofs.Ytfbajampfiodeaa.RxNew Go.Proofs.Ytfbajampfiodeaa.Hm Go.Proofs.Ytfbajampfiodeaa.Hash
set_option linter.unusedVariables false
section
variable {w w' : World} {F F' : Nat → Prop} {g bm gk gt ct : Nat} {sz : Int} {ks : List (Option (List Int))} {tk : List Bool} {V : Value} {ord : List Int}
theorem Put_bad (h : LIx w F g bm gk gt ct sz ks tk V ord) (A : Option Addr) (c : Nat) (l : List Int) (f : Int) (hC : Kd.C (Kd.int .u8) w A l.length l) (hlb : Bs l) (hsz : (l.length : Int) ≠ sz) :
    Calls Try.prog 40 #[.pointer (some ⟨g, 0, none⟩), .slice A l.length c, .int .u64 f] w fun e w' => e = .returned (.tuple #[.int .i64 0, .bool false, .int .i64 2]) ∧ w = w' := by
  obtain ⟨c1, c2, g0, g1, g2, g3, g4, f4, hc1, hc2⟩ := h.cells
  obtain ⟨D, hD, hm⟩ := h.map
  have hcv := Kd.C_string (P := Try.prog) (A := A) (c := c) Try.underlying32 Try.underlying5 Try.underlying9 (Kd.C_drew hC)
  have hln : ((l.length : Int) != sz) = true := by simpa using hsz
  clear hsz
  clear h hD hm hC g2 g3 g4 f4 hc1 hc2 hlb
  go_enter Try.func40, Try.ntmps40
  go_wp2
  go_ret3
  exact ⟨rfl, rfl⟩
theorem Put_flags (h : LIx w F g bm gk gt ct sz ks tk V ord) (A : Option Addr) (c : Nat) (l : List Int) (f : Int) (hC : Kd.C (Kd.int .u8) w A l.length l) (hlb : Bs l) (hsz : (l.length : Int) = sz) (hf : f > 2) :
    Calls Try.prog 40 #[.pointer (some ⟨g, 0, none⟩), .slice A l.length c, .int .u64 f] w fun e w' => e = .returned (.tuple #[.int .i64 0, .bool false, .int .i64 72]) ∧ w = w' := by
  obtain ⟨c1, c2, g0, g1, g2, g3, g4, f4, hc1, hc2⟩ := h.cells
  obtain ⟨D, hD, hm⟩ := h.map
  have hcv := Kd.C_string (P := Try.prog) (A := A) (c := c) Try.underlying32 Try.underlying5 Try.underlying9 (Kd.C_drew hC)
  have hln : ((l.length : Int) != sz) = false := by simpa using hsz
  clear hsz
  clear h hD hm hC g2 g3 g4 f4 hc1 hc2 hlb
  go_enter Try.func40, Try.ntmps40
  go_wp2
  go_ret3
  exact ⟨rfl, rfl⟩
theorem Put_exist (h : LIx w F g bm gk gt ct sz ks tk V ord) (A : Option Addr) (c : Nat) (l : List Int) (hC : Kd.C (Kd.int .u8) w A l.length l) (hlb : Bs l) (hsz : (l.length : Int) = sz) (i : Nat) (hs : sameAt l ks 0 = (i : Int)) :
    Calls Try.prog 40 #[.pointer (some ⟨g, 0, none⟩), .slice A l.length c, .int .u64 1] w fun e w' => e = .returned (.tuple #[.int .i64 0, .bool false, .int .i64 70]) ∧ ∃ n, w' = w.drewN n := by
  obtain ⟨c1, c2, g0, g1, g2, g3, g4, f4, hc1, hc2⟩ := h.cells
  obtain ⟨D, hD, hm⟩ := h.map
  have hcv := Kd.C_string (P := Try.prog) (A := A) (c := c) Try.underlying32 Try.underlying5 Try.underlying9 (Kd.C_drew hC)
  have hln : ((l.length : Int) != sz) = false := by simpa using hsz
  have hlk := look_hit (w := w.drew) hD hm l hC.2.1 i hs
  clear hsz hs
  clear h hD hm hC g2 g3 g4 f4 hc1 hc2 hlb
  go_enter Try.func40, Try.ntmps40
  go_wp2
  go_region
  go_wp2
  go_ret3
  exact ⟨rfl, ⟨_, rfl⟩⟩
theorem Put_none (h : LIx w F g bm gk gt ct sz ks tk V ord) (A : Option Addr) (c : Nat) (l : List Int) (hC : Kd.C (Kd.int .u8) w A l.length l) (hlb : Bs l) (hsz : (l.length : Int) = sz) (hs : sameAt l ks 0 < 0) :
    Calls Try.prog 40 #[.pointer (some ⟨g, 0, none⟩), .slice A l.length c, .int .u64 2] w fun e w' => e = .returned (.tuple #[.int .i64 0, .bool false, .int .i64 14]) ∧ ∃ n, w' = w.drewN n := by
  obtain ⟨c1, c2, g0, g1, g2, g3, g4, f4, hc1, hc2⟩ := h.cells
  obtain ⟨D, hD, hm⟩ := h.map
  have hcv := Kd.C_string (P := Try.prog) (A := A) (c := c) Try.underlying32 Try.underlying5 Try.underlying9 (Kd.C_drew hC)
  have hln : ((l.length : Int) != sz) = false := by simpa using hsz
  have hlk := look_miss (w := w.drew) hD hm (fun l hl => (h.ok.kb l hl).2) l hlb hC.2.1 hs
  clear hsz hs
  clear h hD hm hC g2 g3 g4 f4 hc1 hc2 hlb
  go_enter Try.func40, Try.ntmps40
  go_wp2
  go_region
  go_wp2
  go_ret3
  exact ⟨rfl, ⟨_, rfl⟩⟩
theorem Del_bad (h : LIx w F g bm gk gt ct sz ks tk V ord) (A : Option Addr) (c : Nat) (l : List Int) (hC : Kd.C (Kd.int .u8) w A l.length l) (hlb : Bs l) (hsz : (l.length : Int) ≠ sz) :
    Calls Try.prog 45 #[.pointer (some ⟨g, 0, none⟩), .slice A l.length c] w fun e w' => e = .returned (.tuple #[.int .i64 0, .int .i64 2]) ∧ w = w' := by
  obtain ⟨c1, c2, g0, g1, g2, g3, g4, f4, hc1, hc2⟩ := h.cells
  obtain ⟨D, hD, hm⟩ := h.map
  have hcv := Kd.C_string (P := Try.prog) (A := A) (c := c) Try.underlying32 Try.underlying5 Try.underlying9 (Kd.C_drew hC)
  have hln : ((l.length : Int) != sz) = true := by simpa using hsz
  clear hsz
  clear h hD hm hC g2 g3 g4 f4 hc1 hc2 hlb
  go_enter Try.func45, Try.ntmps45
  go_wp2
  go_ret2
  exact ⟨rfl, rfl⟩
theorem Del_none (h : LIx w F g bm gk gt ct sz ks tk V ord) (A : Option Addr) (c : Nat) (l : List Int) (hC : Kd.C (Kd.int .u8) w A l.length l) (hlb : Bs l) (hsz : (l.length : Int) = sz) (hs : sameAt l ks 0 < 0) :
    Calls Try.prog 45 #[.pointer (some ⟨g, 0, none⟩), .slice A l.length c] w fun e w' => e = .returned (.tuple #[.int .i64 0, .int .i64 14]) ∧ ∃ n, w' = w.drewN n := by
  obtain ⟨c1, c2, g0, g1, g2, g3, g4, f4, hc1, hc2⟩ := h.cells
  obtain ⟨D, hD, hm⟩ := h.map
  have hcv := Kd.C_string (P := Try.prog) (A := A) (c := c) Try.underlying32 Try.underlying5 Try.underlying9 (Kd.C_drew hC)
  have hln : ((l.length : Int) != sz) = false := by simpa using hsz
  have hlk := look_miss (w := w.drew) hD hm (fun l hl => (h.ok.kb l hl).2) l hlb hC.2.1 hs
  clear hsz hs
  clear h hD hm hC g2 g3 g4 f4 hc1 hc2 hlb
  go_enter Try.func45, Try.ntmps45
  go_wp2
  go_region
  go_wp2
  go_ret2
  exact ⟨rfl, ⟨_, rfl⟩⟩
theorem Put_again (h : LIx w F g bm gk gt ct sz ks tk V ord) (A : Option Addr) (c : Nat) (l : List Int) (f : Int) (hC : Kd.C (Kd.int .u8) w A l.length l) (hlb : Bs l) (hsz : (l.length : Int) = sz) (hf : ¬ f > 2) (hf1 : f ≠ 1) (i : Nat) (hs : sameAt l ks 0 = (i : Int)) (hol : ord.length ≤ 64) :
    Calls Try.prog 40 #[.pointer (some ⟨g, 0, none⟩), .slice A l.length c, .int .u64 f] w fun e w' => e = .returned (.tuple #[.int .i64 (i : Int), .bool false, .int .i64 0]) ∧ ∃ F' V', LIx w' F' g bm gk gt ct sz ks tk V' (drop_ (i : Int) ord ++ [(i : Int)]) ∧ Step w w' F F' := by
  obtain ⟨c1, c2, g0, g1, g2, g3, g4, f4, hc1, hc2⟩ := h.cells
  obtain ⟨D, hD, hm⟩ := h.map
  have hcv := Kd.C_string (P := Try.prog) (A := A) (c := c) Try.underlying32 Try.underlying5 Try.underlying9 (Kd.C_drew hC)
  have hln : ((l.length : Int) != sz) = false := by simpa using hsz
  have hlk := look_hit (w := w.drew) hD hm l hC.2.1 i hs
  have bf : (f == 1) = false := by simpa using hf1
  have HI := Lib.hid h
  clear hsz hs hf1
  clear h hD hm hC g2 g3 g4 f4 hc1 hc2 hlb
  go_enter Try.func40, Try.ntmps40
  go_wp2
  go_region
  go_wp2_with fail
  refine (touch_ (HI.out.drewN 1) (i : Int) hol).mono ?_
  rintro e w1 ⟨rfl, F1, V1, h1, s1⟩
  have H1 := Lib.hid h1; have S1 := Lib.hid s1
  clear h1 s1
  go_wp2
  go_ret3
  exact ⟨rfl, _, _, H1.out, S1.out.undrewN⟩
set_option maxRecDepth 100000 in
set_option maxHeartbeats 4000000 in
theorem Put_put (h : LIx w F g bm gk gt ct sz ks tk V ord) (A : Option Addr) (c : Nat) (l : List Int) (f : Int) (hC : Kd.C (Kd.int .u8) w A l.length l) (hlb : Bs l) (hsz : (l.length : Int) = sz) (hf : ¬ f > 2) (hf2 : f ≠ 2) (hct : ct < 2199023255552) (hs : sameAt l ks 0 < 0) (hol : ord.length ≤ 64) (hA : ∀ ad, A = some ad → 0 < l.length → ¬ F ad.block)
    (i : Nat) (ks1 : List (Option (List Int))) (hroom : ∀ w, LIx w F g bm gk gt ct sz ks tk V ord → Calls Try.prog 66 #[.pointer (some ⟨g, 0, none⟩)] w fun e w' => e = .returned (.int .i64 (i : Int)) ∧ LIx w' F g bm gk gt ct sz ks1 tk V ord ∧ Step w w' F F) (hi : ks1[i]? = some none) (hs1 : sameAt l ks1 0 < 0) :
    Calls Try.prog 40 #[.pointer (some ⟨g, 0, none⟩), .slice A l.length c, .int .u64 f] w fun e w' => e = .returned (.tuple #[.int .i64 (i : Int), .bool true, .int .i64 0]) ∧ ∃ F' V', LIx w' F' g bm gk gt (ct + 1) sz (ks1.set i (some l)) (tk.set i true) V' (drop_ (i : Int) ord ++ [(i : Int)]) ∧ Step w w' F F' := by
  obtain ⟨c1, c2, g0, g1, g2, g3, g4, f4, hc1, hc2⟩ := h.cells
  obtain ⟨D, hD, hm⟩ := h.map
  have hcv := Kd.C_string (P := Try.prog) (A := A) (c := c) Try.underlying32 Try.underlying5 Try.underlying9 (Kd.C_drew hC)
  have hln : ((l.length : Int) != sz) = false := by simpa using hsz
  have hlk := look_miss (w := w.drew) hD hm (fun l hl => (h.ok.kb l hl).2) l hlb hC.2.1 hs
  have HI := Lib.hid h; have HLB := Lib.hid hlb; have HC := Lib.hid hC; have HSZ := Lib.hid hsz
  have bf : (f == 2) = false := by simpa using hf2
  have HK := Lib.hid hi; have HCT := Lib.hid hct; have HS1 := Lib.hid hs1; have HA := Lib.hid hA
  have HR := Lib.hid hroom
  clear hsz hs hf2 hi hct hs1 hA hroom
  clear h hD hm hC g2 g3 g4 f4 hc1 hc2 hlb
  go_enter Try.func40, Try.ntmps40
  go_wp2
  go_region
  go_wp2_with fail
  refine (HR.out _ (HI.out.drewN 1)).mono ?_
  rintro e w1 ⟨rfl, h1, s1⟩
  have h2 : LIx w1.drew F g bm gk gt ct sz ks1 tk V ord := h1.drewN 1
  obtain ⟨c1, c2, g0, g1, g2, g3, g4, f4, hc1, hc2⟩ := h2.cells
  have hcv := Kd.C_string (P := Try.prog) (A := A) (c := c) Try.underlying32 Try.underlying5 Try.underlying9 (Kd.C_drew (Cu8_step (Kd.C_drewN HC.out 1) s1 HA.out))
  obtain ⟨D, hD, hm⟩ := h2.map
  obtain ⟨hil, _⟩ := List.getElem?_eq_some_iff.1 HK.out
  obtain ⟨v0, st, w2, w3, hr1, hg1, hr2, hD3, hg3⟩ := entry hD (by have := HCT.out; unfold maxLen; omega) l HC.out.2.1 i (by have := h2.ok.len; omega)
  obtain ⟨hL3, hS3⟩ := h2.fill hg3 i hil l ⟨HSZ.out, HLB.out⟩ hD3 (hm.put hD.isMap (fun l hl => (h2.ok.kb l hl).2) HLB.out HS1.out hil HK.out)
  have htl : i < tk.length := by rw [h2.taken.2]; exact hil
  obtain ⟨hL4, hS4⟩ := hL3.mark i htl true
  have a1 := hL3.tkc i htl
  obtain ⟨⟨rt, hrt⟩, _⟩ := hL3.taken
  have a2 := blk_frozen hrt i
  obtain ⟨q1, q2, q3, q4⟩ := h2.still hg3
  obtain ⟨kv, ⟨rk, hk1⟩, hk2, hk3⟩ := h2.kys
  have b1 := (show Row w3 gk 9 (kv.map Value.string) from ⟨rk, q2.trans hk1⟩).cell i (by rw [List.length_map, hk2]; exact hil)
  have b2 := blk_frozen (q2.trans hk1) i
  generalize (kv.map Value.string)[i]'(by rw [List.length_map, hk2]; exact hil) = u at b1
  generalize tk[i]'htl = u2 at a1
  have HL := Lib.hid hL4
  have HS := Lib.hid ((Step.drewN s1 1).trans (hS3.trans hS4))
  clear h1 h2 hL3 hL4 hS3 hS4 s1 hD hm hD3 hg1 hg3 hrt q1 q2 q3 q4 hk1 hk2 hk3 g0 g4 f4
  go_wp2
  go_region
  go_wp2_with fail
  refine (touch_ (HL.out) (i : Int) hol).mono ?_
  rintro e w5 ⟨rfl, F5, V5, h5, s5⟩
  have H5 := Lib.hid h5; have S5 := Lib.hid s5
  clear h5 s5
  go_wp2
  go_ret3
  exact ⟨rfl, _, _, H5.out, (HS.out.trans S5.out).undrewN⟩
end
end Go.Proofs.Ytfbajampfiodeaa.Lru
namespace Go.Proofs.Ytfbajampfiodeaa.Lru
open Go.RowKit Go.Maps Go.Proofs.Ytfbajampfiodeaa.PArrayPlays Go.Proofs.YtfbajampfiodeaaW.PrintWords Go.Proofs.YtfbajampfiodeaaW.PrintLast Go.Proofs.YtfbajampfiodeaaW.PrintMore Go.Proofs.Ytfbajampfiodeaa.Mw Go.Proofs.Ytfbajampfiodeaa.Rx Go.Proofs.Ytfbajampfiodeaa.RxOps Go.Proofs.Ytfbajampfiodeaa.RxPut Go.Proofs.Ytfbajampfiodeaa.RxNew Go.Proofs.Ytfbajampfiodeaa.Hm Go.Proofs.Ytfbajampfiodeaa.Hash
set_option linter.unusedVariables false
section
variable {w w' : World} {F F' : Nat → Prop} {g bm gk gt ct : Nat} {sz : Int} {ks : List (Option (List Int))} {tk : List Bool} {V : Value} {ord : List Int}
set_option maxRecDepth 100000 in
set_option maxHeartbeats 4000000 in
theorem Del_ (h : LIx w F g bm gk gt ct sz ks tk V ord) (A : Option Addr) (c : Nat) (l : List Int) (hC : Kd.C (Kd.int .u8) w A l.length l) (hlb : Bs l) (hsz : (l.length : Int) = sz) (i : Nat) (hs : sameAt l ks 0 = (i : Int)) (hi : i < ks.length) (hol : ord.length ≤ 64) :
    Calls Try.prog 45 #[.pointer (some ⟨g, 0, none⟩), .slice A l.length c] w fun e w' => e = .returned (.tuple #[.int .i64 (i : Int), .int .i64 0]) ∧ ∃ F' V', LIx w' F' g bm gk gt ct sz (ks.set i none) (tk.set i false) V' (drop_ (i : Int) ord) ∧ Step w w' F F' := by
  obtain ⟨c1, c2, g0, g1, g2, g3, g4, f4, hc1, hc2⟩ := h.cells
  obtain ⟨D, hD, hm⟩ := h.map
  have hcv := Kd.C_string (P := Try.prog) (A := A) (c := c) Try.underlying32 Try.underlying5 Try.underlying9 (Kd.C_drew hC)
  have hln : ((l.length : Int) != sz) = false := by simpa using hsz
  have hlk := look_hit (w := w.drew) hD hm l hC.2.1 i hs
  have hcv2 := Kd.C_string (P := Try.prog) (A := A) (c := c) Try.underlying32 Try.underlying5 Try.underlying9 (Kd.C_drew (Kd.C_drew hC))
  have h2 : LIx w.drew.drew F g bm gk gt ct sz ks tk V ord := h.drewN 2
  obtain ⟨D2, hD2, hm2⟩ := h2.map
  obtain ⟨w1, hrun, hD1, hg1⟩ := hD2.drop law Try.underlying99 (klit_key l hC.2.1) 0
  obtain ⟨hL1, hS1⟩ := h2.mapTo hg1.grown i hD1 (hm2.del (fun l hl => (h.ok.kb l hl).2) (same_some hs))
  have htl : i < tk.length := by rw [h.taken.2]; exact hi
  have a1 := hL1.tkc i htl
  obtain ⟨⟨rt, hrt⟩, _⟩ := hL1.taken
  have a2 := blk_frozen hrt i
  obtain ⟨_, _, _, _, _, k3, _⟩ := hL1.cells
  have k3 := (show w1.cell? ⟨g, 3, none⟩ = some (.slice (some ⟨gt, 0, none⟩) ks.length c2) from (World.cell?_of_block (w := w.drew.drew) (a := ⟨g, 3, none⟩) (h2.still hg1.grown).1).trans g3)
  obtain ⟨hL2, hS2⟩ := hL1.mark i htl false
  have HL := Lib.hid hL2
  have HS := Lib.hid (hS1.trans hS2)
  generalize tk[i]'htl = u2 at a1
  clear hL1 hL2 hS1 hS2 h2 hD2 hm2 hD1 hg1 hrt
  clear hsz hs
  clear h hD hm hC g2 g4 f4 hc1 hlb htl
  go_enter Try.func45, Try.ntmps45
  go_wp2
  go_region
  go_wp2
  go_region
  go_wp2_with fail
  refine (leave_ (HL.out) (i : Int) hol).mono ?_
  rintro e w5 ⟨rfl, F5, V5, h5, s5⟩
  have H5 := Lib.hid h5; have S5 := Lib.hid s5
  clear h5 s5
  go_wp2
  go_ret2
  exact ⟨rfl, _, _, H5.out, Step.undrewN (n := 2) (HS.out.trans S5.out)⟩
end
theorem made {W : World} {m g bm gk gt : Nat} {sz : Int} (h0 : W.ownsMap Try.prog 9 (plainElem (H := Unit) Try.prog 3) bm 0 (.map [])) (h1 : W.heap[gk]? = some (.cells (madeCells #[.string ByteArray.empty] m) 9 (0, 0))) (h2 : W.heap[gt]? = some (.cells (madeCells #[.bool false] m) 4 (0, 0)))
    (h3 : W.heap[g]? = some (.cells #[.int .i64 sz, .map (some bm), .slice (some ⟨gk, 0, none⟩) m m, .slice (some ⟨gt, 0, none⟩) m m, .slice none 0 0] 106 (0, 0))) (hm : 0 < m ∧ m ≤ 64) (hsz : 0 < sz ∧ sz ≤ 16) :
    LIx W (fun b => b = g ∨ b = bm ∨ b = gk ∨ b = gt) g bm gk gt 0 sz (List.replicate m none) (List.replicate m false) (.slice none 0 0) [] := by
  refine ⟨⟨m, m, by rw [List.length_replicate]; exact h3, by simp, by simp⟩, ⟨_, h0, MapIs.empty m⟩, ⟨List.replicate m ByteArray.empty, Row.of h1 (by rw [made_rep]; simp), by simp, fun i l hl => ?_⟩, ⟨Row.of h2 (by rw [made_rep]; simp), by simp⟩, ⟨World.ownsRow_nil _ _ _ _, fun b hb => by simp [Value.ownBlock] at hb⟩, ⟨.inl rfl, .inr (.inl rfl), .inr (.inr (.inl rfl)), .inr (.inr (.inr rfl))⟩, ?_, ⟨by simpa using hm, hsz, fun l hl => absurd (List.eq_of_mem_replicate hl) (by simp)⟩⟩
  · rw [List.getElem?_replicate] at hl
    split at hl <;> cases hl
  · rintro b (rfl | rfl | rfl | rfl)
    · exact blk_lt h3
    · exact h0.lt
    · exact blk_lt h1
    · exact blk_lt h2
theorem made_map {W : World} {bm : Nat} (h : W.heap[bm]? = some (.map #[] 0)) : W.ownsMap Try.prog 9 (plainElem (H := Unit) Try.prog 3) bm 0 (.map []) :=
  ⟨#[], 0, h, ⟨by simp, Go.MapKept.stamped_empty 0, by simp⟩, Nat.le_refl _, rfl⟩
theorem four (w : World) (o1 o2 o3 o4 : Obj) : ((((w.alloc o1).alloc o2).alloc o3).alloc o4).heap[w.heap.size]? = some o1 ∧ ((((w.alloc o1).alloc o2).alloc o3).alloc o4).heap[w.heap.size + 1]? = some o2 ∧ ((((w.alloc o1).alloc o2).alloc o3).alloc o4).heap[w.heap.size + 1 + 1]? = some o3 ∧ ((((w.alloc o1).alloc o2).alloc o3).alloc o4).heap[w.heap.size + 1 + 1 + 1]? = some o4 := by
  have s1 : (w.alloc o1).heap.size = w.heap.size + 1 := by simp
  have s2 : ((w.alloc o1).alloc o2).heap.size = w.heap.size + 1 + 1 := by simp
  have s3 : (((w.alloc o1).alloc o2).alloc o3).heap.size = w.heap.size + 1 + 1 + 1 := by simp
  refine ⟨blk_alloc (blk_alloc (blk_alloc (heap_alloc_new w o1) _) _) _, ?_, ?_, ?_⟩
  · rw [← s1]; exact blk_alloc (blk_alloc (heap_alloc_new _ o2) _) _
  · rw [← s2]; exact blk_alloc (heap_alloc_new _ o3) _
  · rw [← s3]; exact heap_alloc_new _ o4
set_option maxHeartbeats 4000000 in
theorem New_ok (s : Int) (m : Nat) (w : World) (hs1 : 1 ≤ s) (hs2 : s ≤ 16) (h1 : 1 ≤ m) (h2 : m ≤ 64) :
    Calls Try.prog 38 #[.int .i64 s, .int .i64 (m : Int)] w fun e w' => ∃ F g bm gk gt, e = .returned (.tuple #[.pointer (some ⟨g, 0, none⟩), .int .i64 0]) ∧ LIx w' F g bm gk gt 0 s (List.replicate m none) (List.replicate m false) (.slice none 0 0) [] ∧ (∀ b, F b → w.heap.size ≤ b) ∧ Below w.heap.size w w' := by
  obtain ⟨i1, hi1, hz1, hs1', hb1⟩ := info_parts (P := Try.prog) (e := 4) (z := .bool false) (size := 1) (bytes := 1) (by kernel_rfl)
  obtain ⟨i2, hi2, hz2, hs2', hb2⟩ := info_parts (P := Try.prog) (e := 9) (z := .string ByteArray.empty) (size := 1) (bytes := 16) (by kernel_rfl)
  have hm1 : ∀ W, (Instr.makeSlice 58 (.int .i64 m) (.int .i64 m)).run Try.prog W = .ok (.slice (some ⟨W.heap.size, 0, none⟩) m m) (W.alloc (.cells (madeCells #[.bool false] m) 4)) := by
    intro W
    have := run_makeSlice (P := Try.prog) W 58 4 i1 (.bool false) Try.underlying58 hi1 hz1 .i64 .i64 m m (by omega) (by omega) (by rw [hs1']; omega) (by rw [hb1]; omega) (by omega)
    rw [hs1', Int.toNat_natCast, Nat.mul_one] at this
    exact this
  have hm2 : ∀ W, (Instr.makeSlice 104 (.int .i64 m) (.int .i64 m)).run Try.prog W = .ok (.slice (some ⟨W.heap.size, 0, none⟩) m m) (W.alloc (.cells (madeCells #[.string ByteArray.empty] m) 9)) := by
    intro W
    have := run_makeSlice (P := Try.prog) W 104 9 i2 (.string ByteArray.empty) Try.underlying104 hi2 hz2 .i64 .i64 m m (by omega) (by omega) (by rw [hs2']; omega) (by rw [hb2]; omega) (by omega)
    rw [hs2', Int.toNat_natCast, Nat.mul_one] at this
    exact this
  have hmm := @run_makeMap Try.prog
  have hB0 := Below.refl w.heap.size w
  clear hi1 hz1 hs1' hb1 hi2 hz2 hs2' hb2
  go_enter Try.func38, Try.ntmps38
  go_wp2
  go_region
  all_goals
    clear hm1 hm2 hmm
    go_wp2
    go_ret2
    have e1 : ∀ b, w.heap.size ≤ b → w.heap.size ≤ b := fun _ h => h
    first
    | exact ⟨_, _, w.heap.size, w.heap.size + 1, w.heap.size + 1 + 1, rfl, made (made_map (by first | exact (four _ _ _ _ _).1 | exact (four _ _ _ _ _).2.1 | exact (four _ _ _ _ _).2.2.1)) (by first | exact (four _ _ _ _ _).1 | exact (four _ _ _ _ _).2.1 | exact (four _ _ _ _ _).2.2.1) (by first | exact (four _ _ _ _ _).1 | exact (four _ _ _ _ _).2.1 | exact (four _ _ _ _ _).2.2.1) (four _ _ _ _ _).2.2.2 (by omega) (by omega), (by intro b hb; omega), below_drew (below_alloc (below_alloc (below_alloc (below_alloc (Below.refl _ _) _) _) _) _)⟩
    | exact ⟨_, _, w.heap.size, w.heap.size + 1 + 1, w.heap.size + 1, rfl, made (made_map (by first | exact (four _ _ _ _ _).1 | exact (four _ _ _ _ _).2.1 | exact (four _ _ _ _ _).2.2.1)) (by first | exact (four _ _ _ _ _).1 | exact (four _ _ _ _ _).2.1 | exact (four _ _ _ _ _).2.2.1) (by first | exact (four _ _ _ _ _).1 | exact (four _ _ _ _ _).2.1 | exact (four _ _ _ _ _).2.2.1) (four _ _ _ _ _).2.2.2 (by omega) (by omega), (by intro b hb; omega), below_drew (below_alloc (below_alloc (below_alloc (below_alloc (Below.refl _ _) _) _) _) _)⟩
    | exact ⟨_, _, w.heap.size + 1, w.heap.size, w.heap.size + 1 + 1, rfl, made (made_map (by first | exact (four _ _ _ _ _).1 | exact (four _ _ _ _ _).2.1 | exact (four _ _ _ _ _).2.2.1)) (by first | exact (four _ _ _ _ _).1 | exact (four _ _ _ _ _).2.1 | exact (four _ _ _ _ _).2.2.1) (by first | exact (four _ _ _ _ _).1 | exact (four _ _ _ _ _).2.1 | exact (four _ _ _ _ _).2.2.1) (four _ _ _ _ _).2.2.2 (by omega) (by omega), (by intro b hb; omega), below_drew (below_alloc (below_alloc (below_alloc (below_alloc (Below.refl _ _) _) _) _) _)⟩
    | exact ⟨_, _, w.heap.size + 1, w.heap.size + 1 + 1, w.heap.size, rfl, made (made_map (by first | exact (four _ _ _ _ _).1 | exact (four _ _ _ _ _).2.1 | exact (four _ _ _ _ _).2.2.1)) (by first | exact (four _ _ _ _ _).1 | exact (four _ _ _ _ _).2.1 | exact (four _ _ _ _ _).2.2.1) (by first | exact (four _ _ _ _ _).1 | exact (four _ _ _ _ _).2.1 | exact (four _ _ _ _ _).2.2.1) (four _ _ _ _ _).2.2.2 (by omega) (by omega), (by intro b hb; omega), below_drew (below_alloc (below_alloc (below_alloc (below_alloc (Below.refl _ _) _) _) _) _)⟩
    | exact ⟨_, _, w.heap.size + 1 + 1, w.heap.size, w.heap.size + 1, rfl, made (made_map (by first | exact (four _ _ _ _ _).1 | exact (four _ _ _ _ _).2.1 | exact (four _ _ _ _ _).2.2.1)) (by first | exact (four _ _ _ _ _).1 | exact (four _ _ _ _ _).2.1 | exact (four _ _ _ _ _).2.2.1) (by first | exact (four _ _ _ _ _).1 | exact (four _ _ _ _ _).2.1 | exact (four _ _ _ _ _).2.2.1) (four _ _ _ _ _).2.2.2 (by omega) (by omega), (by intro b hb; omega), below_drew (below_alloc (below_alloc (below_alloc (below_alloc (Below.refl _ _) _) _) _) _)⟩
    | exact ⟨_, _, w.heap.size + 1 + 1, w.heap.size + 1, w.heap.size, rfl, made (made_map (by first | exact (four _ _ _ _ _).1 | exact (four _ _ _ _ _).2.1 | exact (four _ _ _ _ _).2.2.1)) (by first | exact (four _ _ _ _ _).1 | exact (four _ _ _ _ _).2.1 | exact (four _ _ _ _ _).2.2.1) (by first | exact (four _ _ _ _ _).1 | exact (four _ _ _ _ _).2.1 | exact (four _ _ _ _ _).2.2.1) (four _ _ _ _ _).2.2.2 (by omega) (by omega), (by intro b hb; omega), below_drew (below_alloc (below_alloc (below_alloc (below_alloc (Below.refl _ _) _) _) _) _)⟩
end Go.Proofs.Ytfbajampfiodeaa.Lru
namespace Go.Proofs.Ytfbajampfiodeaa.Lru
open Go.RowKit Go.Maps Go.Proofs.Ytfbajampfiodeaa.PArrayPlays Go.Proofs.YtfbajampfiodeaaW.PrintWords Go.Proofs.YtfbajampfiodeaaW.PrintLast Go.Proofs.YtfbajampfiodeaaW.PrintMore Go.Proofs.Ytfbajampfiodeaa.Mw Go.Proofs.Ytfbajampfiodeaa.Rx Go.Proofs.Ytfbajampfiodeaa.RxOps Go.Proofs.Ytfbajampfiodeaa.RxPut Go.Proofs.Ytfbajampfiodeaa.RxNew Go.Proofs.Ytfbajampfiodeaa.RxMore Go.Proofs.Ytfbajampfiodeaa.Hm Go.Proofs.Ytfbajampfiodeaa.Hash Go.Proofs.Ytfbajampfiodeaa.Fresh Go.Proofs.Ytfbajampfiodeaa.HashKeys
set_option linter.unusedVariables false
section
variable {w w' : World} {F F' : Nat → Prop} {g bm gk gt ct : Nat} {sz : Int} {ks : List (Option (List Int))} {tk : List Bool} {V : Value} {ord : List Int}
set_option maxHeartbeats 2000000 in
theorem Keys_ (h : LIx w F g bm gk gt ct sz ks tk V ord) (htk : tk = ks.map Option.isSome) :
    Calls Try.prog 41 #[.pointer (some ⟨g, 0, none⟩)] w fun e w' => ∃ v, e = .returned v ∧ FreshRows w' w.heap.size v (ks.filterMap id) ∧ Below w.heap.size w w' := by
  obtain ⟨m, hmk⟩ : ∃ m, m = ks.length := ⟨_, rfl⟩
  have hlen := h.ok.len
  rw [← hmk] at hlen
  obtain ⟨c1, c2, g0, g1, g2, g3, g4, f4, hc1, hc2⟩ := h.cells
  rw [← hmk] at g2 g3 hc1 hc2
  obtain ⟨kv, hk1, hk2, hk3⟩ := h.kys
  have HI := Lib.hid h; have HMK := Lib.hid hmk; have HTK := Lib.hid htk
  have HK1 := Lib.hid hk1; have HK2 := Lib.hid hk2; have HK3 := Lib.hid hk3
  have HO0 := Lib.hid (OutIs.start w w.heap.size)
  have HB0 := Lib.hid (Below.refl w.heap.size w)
  clear h hmk htk g0 g1 g4 f4 hk1 hk2 hk3
  go_enter Try.func41, Try.ntmps41
  go_wp2
  have hml : m ≤ m := Nat.le_refl _
  go_loopw [3, 13] (fun v i w2 => ∃ k : Nat, k ≤ m ∧ i = .int .i64 (k : Int) ∧ Hid (OutIs w2 w.heap.size v ((ks.take k).filterMap id)) ∧ Hid (Below w.heap.size w w2)) (fun _ i _ => m - (intOf i).toNat)
  case atStart => exact ⟨0, Nat.zero_le _, rfl, HO0, HB0⟩
  case round =>
    clear HO0 HB0
    obtain ⟨k, hk, rfl, HO, HBEL⟩ := hrel
    by_cases hlt : k < m
    · have hkl : k < ks.length := by rw [← HMK.out]; exact hlt
      have hcell := old HBEL.out (HK1.out.cell k (by rw [List.length_map, HK2.out]; exact hkl))
      rw [List.getElem_map] at hcell
      have hkv : kv[k]? = some (kv[k]'(by rw [HK2.out]; exact hkl)) := List.getElem?_eq_getElem _
      generalize kv[k]'(by rw [HK2.out]; exact hkl) = ss at hcell hkv
      have htl : k < tk.length := by rw [HI.out.taken.2]; exact hkl
      have htk := old HBEL.out (HI.out.tkc k htl)
      have htv : tk[k] = (ks[k]'hkl).isSome := by
        have : tk[k]? = (ks.map Option.isSome)[k]? := by rw [HTK.out]
        rw [List.getElem?_map, List.getElem?_eq_getElem hkl, List.getElem?_eq_getElem htl] at this
        simpa using this
      rw [htv] at htk
      have q3 := old HBEL.out g3
      cases hkk : ks[k]'hkl with
      | none =>
        have hks : ks[k]? = some none := by rw [List.getElem?_eq_getElem hkl, hkk]
        rw [hkk] at htk
        have ht2 : wr.cell? ⟨gt, k, none⟩ = some (.bool false) := htk
        have HO2 := HO
        rw [← keys_none hks] at HO2
        clear hkk hks htk hkl htl htv hkv HO
        go_wp2
        go_roundw
        case rel => exact ⟨k + 1, by omega, by go_num, HO2, HBEL⟩
        case measure => simp [intOf]; omega
      | some l =>
        have hks : ks[k]? = some (some l) := by rw [List.getElem?_eq_getElem hkl, hkk]
        rw [hkk] at htk
        have ht2 : wr.cell? ⟨gt, k, none⟩ = some (.bool true) := htk
        obtain rfl : ss = strOfNums l := Option.some.inj (hkv.symm.trans (HK3.out k l hks))
        have HKS := Lib.hid (keys_some hks)
        have hl := HI.out.ok.kb l (List.mem_of_getElem? hks)
        have hs16 := HI.out.ok.szs
        have kb := fun W => print_bytes (P := Try.prog) 9 32 5 Try.underlying9 Try.underlying32 Try.underlying5 (strOfNums l) W
        have hb2 : Below wr.heap.size wr (Lib.bytesWorld wr 5 (strOfNums l)) := bytes_below (Below.refl _ _) (Nat.le_refl _) 5 _
        have hU := bytes_fresh wr l hl.2 (by omega) w.heap.size HBEL.out.size
        have hO2 := HO.out.below hb2
        have hsz : wr.heap.size < (Lib.bytesWorld wr 5 (strOfNums l)).heap.size := by
          obtain ⟨b, c, cs, fr, e, _, _, h3, _⟩ := hU
          have e2 : wr.heap.size = b := by simpa [Value.ownBlock] using congrArg Value.ownBlock e
          rw [e2]
          exact blk_lt h3
        have HSZ := Lib.hid (show w.heap.size < (Lib.bytesWorld wr 5 (strOfNums l)).heap.size from Nat.lt_of_le_of_lt HBEL.out.size hsz)
        have HB2 := Lib.hid (HBEL.out.trans (hb2.mono HBEL.out.size))
        obtain ⟨out, o1, o2, o3⟩ := hO2
        have HU := Lib.hid hU
        have HO1 := Lib.hid o1; have HO2 := Lib.hid o2; have HO3 := Lib.hid o3
        have HOL := Lib.hid (show (out.map fun u => [u]).length ≤ 64 by rw [List.length_map, o2]; have := keys_few ks k; have := HI.out.ok.len; omega)
        clear hkk hks htk hkl htl htv hkv HO o1 o2 o3 hl hs16 hb2 hU hsz
        go_wp2_with (first
          | ((with_reducible refine gate_builtin (b := .append) (xs := #[.tmp 25, .tmp 28]) rfl ?_)
             at_builtin
             refine Kd.R_append (Kd.raw 1) (w0 := w) w.heap.size rfl (.tmp 25) (.tmp 28) 38 32 (.slice none 0 0) 24 rfl Try.underlying38 info32 rfl (by decide) (by omega) _ (out.map fun u => [u]) [.slice (some ⟨wr.heap.size, 0, none⟩) (strOfNums l).size (grownCap wr (strOfNums l).size 0 5)] [.slice (some ⟨wr.heap.size, 0, none⟩) (strOfNums l).size (grownCap wr (strOfNums l).size 0 5)] (fun b => w.heap.size < b) (fun _ => False) rfl rfl ?aP (fun _ h => h.elim) ?aF ?aO ?aB ?aS ?aL ?_
             (case aP => exact ⟨rfl, rfl, by simp; rfl⟩)
             (case aF => exact fun b hb => Nat.lt_of_lt_of_le HSZ.out hb)
             (case aO => exact HO1.out)
             (case aB => exact HB2.out)
             (case aS => exact HB2.out.size)
             (case aL => have := HOL.out; omega)
             intro v8 w8 ho hb hg hat
             have HW8 := Lib.hid (And.intro (OutIs.snoc HO1.out HO2.out HO3.out HU.out ho hg) hb)
             clear ho hb hg hat)
          | fail)
        have HOO := HW8.out.1
        rw [← HKS.out] at HOO
        have HB3 := Lib.hid HW8.out.2
        have HOO2 := Lib.hid HOO
        clear HOO
        go_roundw
        case rel => exact ⟨k + 1, by omega, by go_num, HOO2, HB3⟩
        case measure => simp [intOf]; omega
    · obtain rfl : k = m := by omega
      have hO := HO.out
      rw [show ks.take k = ks by rw [HMK.out, List.take_length]] at hO
      have HD2 := Lib.hid hO.done
      clear hO
      go_wp2
      go_ret
      exact ⟨_, rfl, HD2.out, HBEL.out⟩
end
end Go.Proofs.Ytfbajampfiodeaa.Lru
