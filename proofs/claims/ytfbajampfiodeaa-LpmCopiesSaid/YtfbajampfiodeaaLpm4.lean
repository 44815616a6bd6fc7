/- The document's index of the kind 3: Fits, Same, Find, walked by hand. The document's index of the kind 3: Find, walked by hand. The document's index of the kind 3: Put, Del, walked by hand. -/
import Derived.Test.YtfbajampfiodeaaLpm2
import Derived.Test.YtfbajampfiodeaaFresh
import Derived.Deep.DeepCutAuto
import Derived.Test.YtfbajampfiodeaaRxNew
namespace Go.Proofs.Ytfbajampfiodeaa.LpmR
open Go.RowKit Go.Proofs.Ytfbajampfiodeaa.PArrayPlays Go.Proofs.YtfbajampfiodeaaW.PrintWords Go.Proofs.YtfbajampfiodeaaW.PrintLast Go.Proofs.YtfbajampfiodeaaW.PrintMore Go.Proofs.Ytfbajampfiodeaa.Mw Go.Proofs.Ytfbajampfiodeaa.Rx Go.Proofs.Ytfbajampfiodeaa.RxOps Go.Proofs.Ytfbajampfiodeaa.RxPut Go.Proofs.Ytfbajampfiodeaa.RxNew Go.Proofs.Ytfbajampfiodeaa.LpmB Go.Proofs.Ytfbajampfiodeaa.LpmF Go.Proofs.Ytfbajampfiodeaa.LpmC Go.Proofs.Ytfbajampfiodeaa.LpmD Go.Proofs.Ytfbajampfiodeaa.LpmE
set_option linter.unusedVariables false
section
variable {w : World} {F : Nat → Prop} {g gs gw : Nat} {sz mx ck : Int} {ks : List (Option (List Int))} {wn : List Int}
theorem Fits_len (h : RIx w F g gs gw 3 sz mx ck ks wn) (A : Option Addr) (l c : Nat) (hl : (l : Int) ≠ sz) :
    Calls Try.prog 76 #[.pointer (some ⟨g, 0, none⟩), .slice A l c] w fun e w' => e = .returned (.bool false) ∧ ∃ n, w' = w.drewN n := by
  obtain ⟨c1, c2, g0, g1, g2, g3, g4, g5, gf, hc1, hc2⟩ := h.cells
  have b1 : ((l : Int) == sz) = false := by simpa using hl
  clear gf h g2 g3 g4 g5 hc1 hc2 hl
  go_enter Try.func76, Try.ntmps76
  go_wp2
  go_quiet (fail)
  go_wp2
  go_ret
  exact ⟨rfl, ⟨_, rfl⟩⟩
theorem Fits_eq (h : RIx w F g gs gw 3 sz mx ck ks wn) (h5 : 5 ≤ sz) (A : Option Addr) (c : Nat) (l : List Int) (hC : Kd.C (Kd.int .u8) w A l.length l) (hlc : l.length ≤ c) (hl : (l.length : Int) = sz) (hb : Bs l) :
    Calls Try.prog 76 #[.pointer (some ⟨g, 0, none⟩), .slice A l.length c] w fun e w' => e = .returned (.bool (decide (nb l ≤ 8 * (sz - 4)))) ∧ ∃ n, w' = w.drewN n := by
  obtain ⟨c1, c2, g0, g1, g2, g3, g4, g5, gf, hc1, hc2⟩ := h.cells
  have hsz := h.szs
  have hnb := nb_bounds hb
  have hN := Lib.hid (fun n => (Bits_ (w.drewN n) A c l (Kd.C_drewN hC n) hlc (by omega) hb).mono (fun e w' (h : _ ∧ _) => (⟨h.1, h.2.elim fun m hm => ⟨n + m, by rw [hm, drew2]⟩⟩ : e = .returned (.int .u64 (nb l)) ∧ ∃ m, w' = w.drewN m)))
  have b1 : ((l.length : Int) == sz) = true := by simpa using hl
  have b2 : IntKind.u64.wrap (wrap64 (8 * wrap64 (sz - 4))) = 8 * (sz - 4) := by rw [IntKind.wrap_u64]; unfold wrap64; omega
  have g0' : ∀ n, (w.drewN n).cell? ⟨g, 0, none⟩ = some (.int .i64 3) := fun _ => g0
  have g1' : ∀ n, (w.drewN n).cell? ⟨g, 1, none⟩ = some (.int .i64 sz) := fun _ => g1
  clear gf h g2 g3 g4 g5 hc1 hc2 hb hC
  generalize nb l = q at *
  have HL := Lib.hid hl
  clear hl
  by_cases hq : q ≤ 8 * (sz - 4)
  · have hd : decide (q ≤ 8 * (sz - 4)) = true := decide_eq_true hq
    rw [hd]
    go_enter Try.func76, Try.ntmps76
    go_wp2
    go_quiet ((go_at_call 78; exact hN.out _))
    go_wp2
    go_ret
    exact ⟨rfl, ⟨_, rfl⟩⟩
  · have hd : decide (q ≤ 8 * (sz - 4)) = false := decide_eq_false hq
    rw [hd]
    go_enter Try.func76, Try.ntmps76
    go_wp2
    go_quiet ((go_at_call 78; exact hN.out _))
    go_wp2
    go_ret
    exact ⟨rfl, ⟨_, rfl⟩⟩
theorem Same_3 (h : RIx w F g gs gw 3 sz mx ck ks wn) (h5 : 5 ≤ sz) (A : Option Addr) (c : Nat) (l : List Int) (hC : Kd.C (Kd.int .u8) w A l.length l) (hlc : l.length ≤ c) (hl : (l.length : Int) = sz) (hlb : Bs l) :
    Calls Try.prog 77 #[.pointer (some ⟨g, 0, none⟩), .slice A l.length c] w fun e w' => e = .returned (.int .i64 (sameAt (cut l) ks 0)) ∧ Below w.heap.size w w' := by
  obtain ⟨c1, c2, g0, g1, g2, g3, g4, g5, gf, hc1, hc2⟩ := h.cells
  have hsz := h.szs
  have hlen := h.len
  have hCU := Lib.hid (Cut_ w A c l hC hlc (by omega) (by omega) hlb)
  have hkl : ∀ l', some l' ∈ ks → l'.length ≤ 16 := fun l' hl' => by have := (h.kb l' hl').1; have := h.szs; omega
  have HKL := Lib.hid hkl
  have HKB := Lib.hid (fun l' hl' => (h.kb l' hl').2)
  have H := Lib.hid h
  have HLB := Lib.hid hlb.cut
  have hcl : (cut l).length = l.length := cut_len (by omega)
  obtain ⟨m, hm⟩ : ∃ m, m = cut l := ⟨_, rfl⟩
  rw [← hm] at hCU HLB hcl ⊢
  have HCL := Lib.hid (show 0 < m.length ∧ m.length ≤ 16 by omega)
  have g3a := g3
  clear gf h g1 g2 g4 g5 hc1 hc2 hC hlb hkl hl hcl hm
  go_enter Try.func77, Try.ntmps77
  go_wp2_with fail
  refine hCU.out.mono ?_
  rintro e w1 ⟨v, rfl, hR, hB⟩
  obtain ⟨b1, cb1, rfl, k1, k2, _, k3⟩ := keyR hR HCL.out.1
  have g3' := old hB g3
  obtain ⟨vs, hv, hr, hkv⟩ := (H.out.below hB).row
  have HV := Lib.hid hv; have HR := Lib.hid hr; have HKV := Lib.hid hkv; have HB := Lib.hid hB
  have hcv := Kd.C_string (P := Try.prog) (A := some ⟨b1, 0, none⟩) (c := cb1) Try.underlying32 Try.underlying5 Try.underlying9 (rowC k3 (by have := HCL.out; omega))
  clear hv hr hkv hB hR k2 k3 g3 g3a
  go_wp2
  go_loop [19] (fun i => ∃ k : Nat, k ≤ ks.length ∧ i = .int .i64 (k : Int) ∧ Hid (sameAt m ks 0 = sameAt m (ks.drop k) k)) (fun i => ks.length - (intOf i).toNat)
  case atStart => exact ⟨0, Nat.zero_le _, rfl, Lib.hid rfl⟩
  case round =>
    obtain ⟨k, hk, rfl, HS⟩ := hrel
    by_cases hlt : k < ks.length
    · have hcell := HR.out.cell k (by rw [HV.out]; exact hlt)
      generalize hvk : vs[k]'(by rw [HV.out]; exact hlt) = v at hcell
      have hvs : vs[k]? = some v := by rw [List.getElem?_eq_getElem (by rw [HV.out]; exact hlt), hvk]
      cases hkk : ks[k]'hlt with
      | none =>
        have hks : ks[k]? = some none := by rw [List.getElem?_eq_getElem hlt, hkk]
        obtain rfl : v = .slice none 0 0 := HKV.out k v none hvs hks
        have hq := fun W => run_neq_slice_nil_any (P := Try.prog) W 32 5 none 0 0 0 0 Try.underlying32
        have HS2 := Lib.hid (HS.out.trans (same_none (by rw [hks]; simp) hlt))
        clear hvk hvs hkk hks HS
        go_wp2
        go_round
        case rel => exact ⟨k + 1, by omega, by go_num, HS2⟩
        case measure => simp [intOf]; omega
      | some l' =>
        have hks : ks[k]? = some (some l') := by rw [List.getElem?_eq_getElem hlt, hkk]
        obtain ⟨b, cb, rfl, hb1, hbF, hrow⟩ := HKV.out k v (some l') hvs hks
        have hl16 := HKL.out l' (List.mem_of_getElem? hks)
        have hq := fun W => run_neq_slice_nil_any (P := Try.prog) W 32 5 (some ⟨b, 0, none⟩) l'.length cb 0 0 Try.underlying32
        have hcv2 := Kd.C_string (P := Try.prog) (A := some ⟨b, 0, none⟩) (c := cb) Try.underlying32 Try.underlying5 Try.underlying9 (rowC hrow (by omega))
        clear hbF
        by_cases he : l' = m
        · have HS2 := Lib.hid (HS.out.trans (same_hit (by rw [hks, he])))
          have hs1 : ((strOfNums l').toList == (strOfNums m).toList) = true := by rw [he]; simp
          clear hvk hvs hkk hks HS hrow he
          go_wp2
          go_ret
          exact ⟨by rw [HS2.out]; rfl, HB.out⟩
        · have HS2 := Lib.hid (HS.out.trans (same_none (by rw [hks]; intro e; injection e with e; injection e with e; exact he e) hlt))
          have hs1 : ((strOfNums l').toList == (strOfNums m).toList) = false := beq_eq_false_iff_ne.mpr fun e => he (str_inj (HKB.out l' (List.mem_of_getElem? hks)) HLB.out e)
          clear hvk hvs hkk hks HS hrow he
          go_wp2
          go_round
          case rel => exact ⟨k + 1, by omega, by go_num, HS2⟩
          case measure => simp [intOf]; omega
    · go_wp2
      go_ret
      exact ⟨by rw [HS.out, List.drop_eq_nil_of_le (by omega)]; rfl, HB.out⟩
end
end Go.Proofs.Ytfbajampfiodeaa.LpmR
namespace Go.Proofs.Ytfbajampfiodeaa.LpmS
open Go.RowKit Go.Proofs.Ytfbajampfiodeaa.PArrayPlays Go.Proofs.YtfbajampfiodeaaW.PrintWords Go.Proofs.YtfbajampfiodeaaW.PrintLast Go.Proofs.YtfbajampfiodeaaW.PrintMore Go.Proofs.Ytfbajampfiodeaa.Mw Go.Proofs.Ytfbajampfiodeaa.Rx Go.Proofs.Ytfbajampfiodeaa.RxOps Go.Proofs.Ytfbajampfiodeaa.RxPut Go.Proofs.Ytfbajampfiodeaa.RxNew Go.Proofs.Ytfbajampfiodeaa.LpmB Go.Proofs.Ytfbajampfiodeaa.LpmF Go.Proofs.Ytfbajampfiodeaa.LpmC Go.Proofs.Ytfbajampfiodeaa.LpmD Go.Proofs.Ytfbajampfiodeaa.LpmE Go.Proofs.Ytfbajampfiodeaa.LpmR
set_option linter.unusedVariables false
theorem step_no {ks : List (Option (List Int))} {l l' : List Int} {k : Nat} {at_ : Int} (hk : ks[k]? = some (some l')) (h : nb l' > nb l ∨ (0 ≤ at_ ∧ nb ((ks.getD at_.toNat none).getD []) ≥ nb l')) : fstep ks l at_ k = at_ := by
  unfold fstep
  rw [hk]
  simp only
  rw [if_pos h]
theorem step_yes {ks : List (Option (List Int))} {l l' : List Int} {k : Nat} {at_ : Int} (hk : ks[k]? = some (some l')) (h1 : ¬ nb l' > nb l) (h2 : ¬ (0 ≤ at_ ∧ nb ((ks.getD at_.toNat none).getD []) ≥ nb l')) : fstep ks l at_ k = if cut (l'.take 4 ++ l.drop 4) = l' then (k : Int) else at_ := by
  unfold fstep
  rw [hk]
  simp only
  rw [if_neg (fun h => h.elim h1 h2)]
section
variable {w : World} {F : Nat → Prop} {g gs gw : Nat} {sz mx ck : Int} {ks : List (Option (List Int))} {wn : List Int}
theorem Fits_3 (h : RIx w F g gs gw 3 sz mx ck ks wn) (h5 : 5 ≤ sz) (A : Option Addr) (c : Nat) (l : List Int) (hC : Kd.C (Kd.int .u8) w A l.length l) (hlc : l.length ≤ c) (hb : Bs l) :
    Calls Try.prog 76 #[.pointer (some ⟨g, 0, none⟩), .slice A l.length c] w fun e w' => e = .returned (.bool (decide ((l.length : Int) = sz ∧ nb l ≤ 8 * (sz - 4)))) ∧ ∃ n, w' = w.drewN n := by
  by_cases hl : (l.length : Int) = sz
  · have := Fits_eq h h5 A c l hC hlc hl hb
    rw [show decide ((l.length : Int) = sz ∧ nb l ≤ 8 * (sz - 4)) = decide (nb l ≤ 8 * (sz - 4)) by simp [hl]]
    exact this
  · rw [decide_eq_false (fun h => hl h.1)]
    exact Fits_len h A l.length c hl
theorem Find_no (h : RIx w F g gs gw 3 sz mx ck ks wn) (h5 : 5 ≤ sz) (A : Option Addr) (c : Nat) (l : List Int) (hC : Kd.C (Kd.int .u8) w A l.length l) (hlc : l.length ≤ c) (hb : Bs l) (hin : ¬ InOk sz l) :
    Calls Try.prog 58 #[.pointer (some ⟨g, 0, none⟩), .slice A l.length c] w fun e w' => e = .returned (.int .i64 (-1)) ∧ ∃ n, w' = w.drewN n := by
  have H := Lib.hid (Fits_3 h h5 A c l hC hlc hb)
  rw [decide_eq_false (fun h => hin ⟨h.1, hb, h.2⟩)] at H
  clear h hC hb hin
  go_enter Try.func58, Try.ntmps58
  go_wp2_with fail
  refine H.out.mono ?_
  rintro e w1 ⟨rfl, n, rfl⟩
  go_wp2
  go_ret
  exact ⟨rfl, ⟨_, rfl⟩⟩
set_option maxHeartbeats 4000000 in
theorem Find_3 (h : RIx w F g gs gw 3 sz mx ck ks wn) (hks : KsOk sz ks) (hck : ck < 4611686018427387904) (A : Option Addr) (c : Nat) (l : List Int) (hC : Kd.C (Kd.int .u8) w A l.length l) (hlc : l.length ≤ c) (hin : InOk sz l) :
    Calls Try.prog 58 #[.pointer (some ⟨g, 0, none⟩), .slice A l.length c] w fun e w' => e = .returned (.int .i64 (find3 ks l)) ∧ RIx w' F g gs gw 3 sz mx (ck + 1) ks (touched wn (find3 ks l) (ck + 1)) ∧ Step w w' F F := by
  have H := Lib.hid h
  have HK := Lib.hid hks; have HIN := Lib.hid hin; have HC := Lib.hid hC
  have hsz := h.szs
  have h5 := hks.1
  have hlen := h.len
  have HFI := Lib.hid (Fits_3 h h5 A c l hC hlc hin.2.1)
  rw [decide_eq_true (show (l.length : Int) = sz ∧ nb l ≤ 8 * (sz - 4) from ⟨hin.1, hin.2.2⟩)] at HFI
  have HBK := Lib.hid (fun W (hB : Below w.heap.size w W) => Bits_ W A c l (Kd.C_below hC hB) hlc (by have := hin.1; omega) hin.2.1)
  have HRES := Lib.hid (find3_bound hks hin)
  obtain ⟨c1, c2, g0, g1, g2, g3, g4, g5, gf, hc1, hc2⟩ := h.cells
  obtain ⟨vs, hv, hr, hkv⟩ := h.row
  have HV := Lib.hid hv; have HR := Lib.hid hr; have HKV := Lib.hid hkv
  have HB0 := Lib.hid (Below.refl w.heap.size w)
  have hll := hin.1
  obtain ⟨ad, rfl, _⟩ := byte_is hC 0 (by have := hin.1; omega)
  have HD4 : Hid (∀ W, Below w.heap.size w W → Kd.C (Kd.int .u8) W (some (ad.add 4)) (l.length - 4) (l.drop 4)) := Lib.hid (fun W hB => by
    have h1 := Kd.C_drop (k := Kd.int .u8) (m := 4) (c := c) (Kd.C_below hC hB) (by have := hin.1; omega) hlc
    rw [if_neg (by have := hin.1; omega), List.length_drop] at h1
    exact h1)
  have hc4 : ¬ c = 4 := by have := hin.1; omega
  clear h hks hin hC g1 g2 g4 g5 gf hc2 hv hr hkv
  obtain ⟨nl, hnl⟩ : ∃ n, n = l.length := ⟨_, rfl⟩
  have HNL := Lib.hid hnl
  rw [← hnl] at hlc HFI HBK hll HD4 ⊢
  have hnl5 : 5 ≤ nl ∧ nl ≤ 16 := by omega
  clear hnl hll
  go_enter Try.func58, Try.ntmps58
  go_wp2_with fail
  refine HFI.out.mono ?_
  rintro e w1 ⟨rfl, n, rfl⟩
  have HBn := Lib.hid (pw_below_drewN HB0.out n)
  have g0' : ∀ n, (w.drewN n).cell? ⟨g, 0, none⟩ = some (.int .i64 3) := fun _ => g0
  have g3' : ∀ n, (w.drewN n).cell? ⟨g, 3, none⟩ = some (.slice (some ⟨gs, 0, none⟩) ks.length c1) := fun _ => g3
  clear HFI
  go_wp2
  clear g0' g3'
  go_loopw [5, 26] (fun a i wr => ∃ (k : Nat) (at_ : Int), k ≤ ks.length ∧ i = .int .i64 (k : Int) ∧ a = .int .i64 at_ ∧ Hid (at_ = fndTo ks l k) ∧ Hid (Below w.heap.size w wr)) (fun _ i _ => ks.length - (intOf i).toNat)
  case atStart => exact ⟨0, -1, Nat.zero_le _, rfl, rfl, Lib.hid rfl, HBn⟩
  case round =>
    clear HBn
    obtain ⟨k, at_, hk, rfl, rfl, HAT, HB⟩ := hrel
    by_cases hlt : k < ks.length
    · have hcell := old HB.out (HR.out.cell k (by rw [HV.out]; exact hlt))
      generalize hvk : vs[k]'(by rw [HV.out]; exact hlt) = v at hcell
      have hvs : vs[k]? = some v := by rw [List.getElem?_eq_getElem (by rw [HV.out]; exact hlt), hvk]
      cases hkk : ks[k]'hlt with
      | none =>
        have hkq : ks[k]? = some none := by rw [List.getElem?_eq_getElem hlt, hkk]
        obtain rfl : v = .slice none 0 0 := HKV.out k v none hvs hkq
        have hq := fun W => run_eql_slice_nil_any (P := Try.prog) W 32 5 none 0 0 0 0 Try.underlying32
        have HAT2 : Hid (at_ = fndTo ks l (k + 1)) := Lib.hid (by rw [fndTo, fstep, hkq]; exact HAT.out)
        clear hvk hvs hkk hkq HAT
        go_wp2
        go_roundw
        case rel => exact ⟨k + 1, at_, by omega, by go_num, rfl, HAT2, HB⟩
        case measure => simp [intOf]; omega
      | some l' =>
        have hkq : ks[k]? = some (some l') := by rw [List.getElem?_eq_getElem hlt, hkk]
        obtain ⟨b, cb, rfl, hb1, hbF, hrow⟩ := HKV.out k v (some l') hvs hkq
        have hq := fun W => run_eql_slice_nil_any (P := Try.prog) W 32 5 (some ⟨b, 0, none⟩) l'.length cb 0 0 Try.underlying32
        have hok := HK.out.2 l' (List.mem_of_getElem? hkq)
        have HROW := Lib.hid (hrow.keep (HB.out.block b hrow.lt))
        have HROW0 := Lib.hid hrow
        have HOK := Lib.hid hok
        have hl' := hok.1
        have hnb1 := nb_bounds hok.2.1
        obtain ⟨q', hq1⟩ : ∃ q', q' = nb l' := ⟨_, rfl⟩
        obtain ⟨q, hq2⟩ : ∃ q, q = nb l := ⟨_, rfl⟩
        have HQ1 := Lib.hid hq1; have HQ2 := Lib.hid hq2
        have HBK' := Lib.hid (fun n => Bits_ (wr.drewN n) (some ⟨b, 0, none⟩) cb l' (Kd.C_drewN (rowC HROW.out (by omega)) n) hb1 (by omega) hok.2.1)
        rw [← hq1] at HBK'
        have HBKL := Lib.hid (fun n => HBK.out (wr.drewN n) (pw_below_drewN HB.out n))
        rw [← hq2] at HBKL
        have HKQ := Lib.hid hkq
        clear hvk hvs hkk hkq hrow hbF hok hq1 hq2 hnb1
        have g3n : ∀ n, (wr.drewN n).cell? ⟨g, 3, none⟩ = some (.slice (some ⟨gs, 0, none⟩) ks.length c1) := fun n => old HB.out g3
        go_upto_region 9 with fail
        go_cut [56] from 31 to 56 (fun c wx => ∃ bo : Bool, c = .bool bo ∧ Hid (bo = true ↔ (q' > q ∨ (0 ≤ at_ ∧ nb ((ks.getD at_.toNat none).getD []) ≥ q'))) ∧ Hid (∃ n, wx = wr.drewN n))
        case first =>
          go_wp2_with fail
          refine (HBK'.out 0).mono ?_
          rintro e w2 ⟨rfl, n2, rfl⟩
          go_wp2_with fail
          refine (HBKL.out _).mono ?_
          rintro e w3 ⟨rfl, n3, rfl⟩
          by_cases cq1 : q' > q
          · go_wp2_with fail
            go_meet
            exact ⟨_, rfl, Lib.hid ⟨fun _ => .inl cq1, fun _ => rfl⟩, Lib.hid ⟨_, rfl⟩⟩
          · by_cases c2 : at_ ≥ 0
            · have hia := fndTo_is HK.out HIN.out k (by omega)
              rw [← HAT.out] at hia
              obtain ⟨ia, l0, e0, hi0, hk0⟩ : ∃ (ia : Nat) (l0 : List Int), at_ = (ia : Int) ∧ ia < k ∧ ks[ia]? = some (some l0) := by
                rcases hia with ⟨e, _⟩ | ⟨j, k0, e, h1, h2, _⟩
                · omega
                · exact ⟨j, k0, e, h1, h2⟩
              clear hia
              have hil : ia < vs.length := by rw [HV.out]; omega
              have hvi : vs[ia]? = some (vs[ia]'hil) := List.getElem?_eq_getElem hil
              obtain ⟨b0, cb0, hv0, hb0, hbF0, hrow0⟩ := HKV.out ia _ (some l0) hvi hk0
              have hok0 := HK.out.2 l0 (List.mem_of_getElem? hk0)
              have hl0 := hok0.1
              have hcell0 := HR.out.cell ia hil
              rw [hv0] at hcell0
              subst e0
              obtain ⟨q0, hq0⟩ : ∃ q0, q0 = nb l0 := ⟨_, rfl⟩
              have HB0' := Lib.hid (fun n => Bits_ (wr.drewN n) (some ⟨b0, 0, none⟩) cb0 l0 (Kd.C_drewN (Kd.C_below (rowC hrow0 (by omega)) HB.out) n) hb0 (by omega) hok0.2.1)
              rw [← hq0] at HB0'
              have hcn : ∀ n, (wr.drewN n).cell? ⟨gs, ia, none⟩ = some (.slice (some ⟨b0, 0, none⟩) l0.length cb0) := fun n => old HB.out hcell0
              have hgd : nb ((ks.getD ((ia : Int)).toNat none).getD []) = q0 := by rw [Int.toNat_natCast, List.getD_eq_getElem?_getD, hk0, hq0]; rfl
              have HGD := Lib.hid hgd
              have hial : ia < ks.length := by omega
              clear hv0 hbF0 hrow0 hok0 hcell0 hvi hk0 hgd hil hq0
              go_wp2_with fail
              refine (HB0'.out _).mono ?_
              rintro e w4 ⟨rfl, n4, rfl⟩
              go_wp2_with fail
              refine (HBK'.out _).mono ?_
              rintro e w5 ⟨rfl, n5, rfl⟩
              by_cases c3 : q0 ≥ q'
              · go_wp2_with fail
                go_meet
                exact ⟨_, rfl, Lib.hid ⟨fun _ => .inr ⟨by omega, by rw [HGD.out]; exact c3⟩, fun _ => rfl⟩, Lib.hid ⟨_, rfl⟩⟩
              · go_wp2_with fail
                go_meet
                exact ⟨_, rfl, Lib.hid (by rw [HGD.out]; simp only [Bool.or_eq_true, decide_eq_true_eq]; omega), Lib.hid ⟨_, rfl⟩⟩
            · go_wp2_with fail
              go_meet
              exact ⟨_, rfl, Lib.hid (by simp only [decide_eq_true_eq]; omega), Lib.hid ⟨_, rfl⟩⟩
        case rest =>
          obtain ⟨bo, rfl, HBO, HWX⟩ := hcut
          obtain ⟨nw, rfl⟩ := HWX.out
          clear g3n
          cases bo with
          | true =>
            have HAT2 : Hid (at_ = fndTo ks l (k + 1)) := Lib.hid ((step_no HKQ.out (by rw [← HQ1.out, ← HQ2.out]; exact HBO.out.1 rfl)).symm.trans (congrArg (fun a => fstep ks l a k) HAT.out))
            have HB3 := Lib.hid (pw_below_drewN HB.out nw)
            go_wp2
            go_roundw
            case rel => exact ⟨k + 1, at_, by omega, by go_num, rfl, HAT2, HB3⟩
            case measure => simp [intOf]; omega
          | false =>
            have HAT2 : Hid ((if cut (l'.take 4 ++ l.drop 4) = l' then (k : Int) else at_) = fndTo ks l (k + 1)) := Lib.hid ((step_yes HKQ.out (fun h => by have := HBO.out.2 (.inl (by rw [HQ1.out, HQ2.out]; exact h)); cases this) (fun h => by have := HBO.out.2 (.inr ⟨h.1, by rw [HQ1.out]; exact h.2⟩); cases this)).symm.trans (congrArg (fun a => fstep ks l a k) HAT.out))
            obtain ⟨X, hX⟩ : ∃ X, X = l'.take 4 ++ l.drop 4 := ⟨_, rfl⟩
            have HXL : Hid (X.length = nl ∧ Bs X) := Lib.hid ⟨by rw [hX, HNL.out]; have := HOK.out.1; have := HIN.out.1; simp; omega, fun x hx => by rw [hX] at hx; exact (List.mem_append.1 hx).elim (fun h => HOK.out.2.1 x (List.mem_of_mem_take h)) (fun h => HIN.out.2.1 x (List.mem_of_mem_drop h))⟩
            have HX := Lib.hid hX
            rw [← hX] at HAT2
            have HRW := Lib.hid (fun W (hB : Below w.heap.size w W) => Kd.C_string (P := Try.prog) (A := some ⟨b, 0, none⟩) (c := cb) Try.underlying32 Try.underlying5 Try.underlying9 (rowC (HROW0.out.keep (hB.block b HROW0.out.lt)) (by omega)))
            clear hX
            have h4c : 4 ≤ cb := by omega
            have h4l : 4 ≤ nl := by omega
            have h4ci : (4 : Int) ≤ (cb : Int) := by omega
            have h4li : (4 : Int) ≤ (nl : Int) := by omega
            have h4cc : (4 : Int) ≤ (c : Int) := by omega
            go_wp2_with fail
            go_region_law (first
              | (refine Kd.R_append_rows_step (Kd.int .u8) (w0 := w) w.heap.size (by rfl) (.tmp 57) (.tmp 59) 32 5 (.int .u8 0) 1 rfl Try.underlying32 info5 rfl (by decide) (by omega) _ ([] : List Int) (l'.take 4) _ _ _ (fun _ => True) (fun _ => False) rfl rfl ?aO ?aC (fun _ _ h => h) (fun _ h => h.elim) (fun _ _ => trivial) ?aB ?aS ?aL ?_
                 (case aO => exact emptyR (heap_alloc_new _ _) (by simpa using HB.out.size))
                 (case aC => exact Kd.C_alloc (Kd.C_drewN (rows_C (rowC HROW.out (by omega)) (by omega)) _) _)
                 (case aB => exact below_alloc (pw_below_drewN HB.out _) _)
                 (case aS => have := HB.out.size; simp; omega)
                 (case aL => simp)
                 intro v1 w7 ho hb hg hat
                 have HO7 : Hid (Kd.R (Kd.int .u8) 5 w7 w.heap.size (fun _ => True) v1 (l'.take 4)) := Lib.hid ho
                 have HB7 := Lib.hid hb
                 clear ho hb hg hat)
              | (refine Kd.R_append_rows_step (Kd.int .u8) (w0 := w) w.heap.size (by rfl) (.tmp 60) (.tmp 62) 32 5 (.int .u8 0) 1 rfl Try.underlying32 info5 rfl (by decide) (by omega) _ (l'.take 4) (l.drop 4) _ _ _ (fun _ => True) (fun _ => False) rfl rfl ?aO ?aC (fun _ _ h => h) (fun _ h => h.elim) (fun _ _ => trivial) ?aB ?aS ?aL ?_
                 (case aO => first | exact HO7.out | exact Kd.R_drewN HO7.out _)
                 (case aC => exact HD4.out _ HB7.out)
                 (case aB => exact HB7.out)
                 (case aS => exact HB7.out.size)
                 (case aL => simp; omega)
                 intro v2 w8 ho hb hg hat
                 rw [← HX.out] at ho
                 obtain ⟨b8, c8, rfl, k1, k2, _, k3⟩ := keyR ho (by have := HXL.out.1; omega)
                 have HC8 := Lib.hid (fun W (hB : Below w8.heap.size w8 W) => Cut_ W (some ⟨b8, 0, none⟩) c8 X (rowC (k3.keep (hB.block b8 k3.lt)) (by have := HXL.out.1; omega)) k1 (by have := HXL.out.1; omega) (by have := HXL.out.1; omega) HXL.out.2)
                 have HB8 := Lib.hid hb
                 clear ho hb hg hat k1 k2 k3)
              | fail)
            have hk8 := HRW.out w8 HB8.out
            have hk8d := HRW.out w8.drew (pw_below_drewN HB8.out 1)
            obtain ⟨Y, hY⟩ : ∃ Y, Y = cut X := ⟨_, rfl⟩
            have HY : Hid (0 < Y.length ∧ Y.length ≤ 16 ∧ Bs Y) := Lib.hid (by rw [hY, cut_len (by have := HXL.out.1; omega)]; have := HXL.out.1; exact ⟨by omega, by omega, HXL.out.2.cut⟩)
            rw [← hY] at HAT2 HC8
            clear hY
            by_cases hcx : Y = l'
            · have hs1 : ((strOfNums Y).toList == (strOfNums l').toList) = true := by rw [hcx]; simp
              have HAT3 : Hid ((k : Int) = fndTo ks l (k + 1)) := Lib.hid (by rw [← HAT2.out, if_pos hcx])
              clear hcx
              go_wp2_with fail
              go_region_with (go_at_call 79; refine ((HC8.out _ (by first | exact Below.refl _ _ | exact pw_below_drewN (Below.refl _ _) _)).mono ?_); rintro e w9 ⟨v9, rfl, hR9, hB9⟩; obtain ⟨b9, c9, rfl, k1, k2, _, k3⟩ := keyR hR9 HY.out.1; have hk9 := HRW.out w9 (HB8.out.trans ((show Below w8.heap.size w8 w9 from ⟨hB9.os, hB9.tape, hB9.output, hB9.size, hB9.block⟩).mono HB8.out.size)); have hx9 := Kd.C_string (P := Try.prog) (A := some ⟨b9, 0, none⟩) (c := c9) Try.underlying32 Try.underlying5 Try.underlying9 (rowC k3 (by have := HY.out.2.1; omega)); have HB9 := Lib.hid (HB8.out.trans ((show Below w8.heap.size w8 w9 from ⟨hB9.os, hB9.tape, hB9.output, hB9.size, hB9.block⟩).mono HB8.out.size)); clear hR9 hB9 k1 k2 k3)
              all_goals
                clear hk8 hk8d hk9 hx9 hs1 hq hcell hl'
                go_wp2
                go_roundw
                case rel => exact ⟨k + 1, (k : Int), by omega, by go_num, rfl, HAT3, HB9⟩
                case measure => simp [intOf]; omega
            · have hs1 : ((strOfNums Y).toList == (strOfNums l').toList) = false := beq_eq_false_iff_ne.mpr fun e => hcx (str_inj HY.out.2.2 HOK.out.2.1 e)
              have HAT3 : Hid (at_ = fndTo ks l (k + 1)) := Lib.hid (by rw [← HAT2.out, if_neg hcx])
              clear hcx
              go_wp2_with fail
              go_region_with (go_at_call 79; refine ((HC8.out _ (by first | exact Below.refl _ _ | exact pw_below_drewN (Below.refl _ _) _)).mono ?_); rintro e w9 ⟨v9, rfl, hR9, hB9⟩; obtain ⟨b9, c9, rfl, k1, k2, _, k3⟩ := keyR hR9 HY.out.1; have hk9 := HRW.out w9 (HB8.out.trans ((show Below w8.heap.size w8 w9 from ⟨hB9.os, hB9.tape, hB9.output, hB9.size, hB9.block⟩).mono HB8.out.size)); have hx9 := Kd.C_string (P := Try.prog) (A := some ⟨b9, 0, none⟩) (c := c9) Try.underlying32 Try.underlying5 Try.underlying9 (rowC k3 (by have := HY.out.2.1; omega)); have HB9 := Lib.hid (HB8.out.trans ((show Below w8.heap.size w8 w9 from ⟨hB9.os, hB9.tape, hB9.output, hB9.size, hB9.block⟩).mono HB8.out.size)); clear hR9 hB9 k1 k2 k3)
              all_goals
                clear hk8 hk8d hk9 hx9 hs1 hq hcell hl'
                go_wp2
                go_roundw
                case rel => exact ⟨k + 1, at_, by omega, by go_num, rfl, HAT3, HB9⟩
                case measure => simp [intOf]; omega
    · obtain rfl : k = ks.length := by omega
      obtain rfl : at_ = find3 ks l := HAT.out
      have HDO := Lib.hid (touch_ (H.out.below HB.out) hck (find3 ks l) HRES.out)
      clear HAT
      go_wp2_with fail
      refine HDO.out.mono ?_
      rintro e w9 ⟨rfl, hR9, hS9⟩
      have HR9 := Lib.hid hR9
      have HS9 := Lib.hid ((Step.of_below HB.out F).trans hS9)
      clear hR9 hS9 HDO
      go_wp2
      go_ret
      exact ⟨rfl, HR9.out, HS9.out⟩
end
end Go.Proofs.Ytfbajampfiodeaa.LpmS
namespace Go.Proofs.Ytfbajampfiodeaa.LpmU
open Go.RowKit Go.Proofs.Ytfbajampfiodeaa.PArrayPlays Go.Proofs.YtfbajampfiodeaaW.PrintWords Go.Proofs.YtfbajampfiodeaaW.PrintLast Go.Proofs.YtfbajampfiodeaaW.PrintMore Go.Proofs.Ytfbajampfiodeaa.Mw Go.Proofs.Ytfbajampfiodeaa.Rx Go.Proofs.Ytfbajampfiodeaa.RxOps Go.Proofs.Ytfbajampfiodeaa.RxPut Go.Proofs.Ytfbajampfiodeaa.RxNew Go.Proofs.Ytfbajampfiodeaa.LpmB Go.Proofs.Ytfbajampfiodeaa.LpmF Go.Proofs.Ytfbajampfiodeaa.LpmC Go.Proofs.Ytfbajampfiodeaa.LpmD Go.Proofs.Ytfbajampfiodeaa.LpmE Go.Proofs.Ytfbajampfiodeaa.LpmR Go.Proofs.Ytfbajampfiodeaa.LpmS
set_option linter.unusedVariables false
section
variable {w : World} {F : Nat → Prop} {g gs gw : Nat} {sz mx ck : Int} {ks : List (Option (List Int))} {wn : List Int}
/-- A store into a slot of keys leaves a row of bytes as it was. -/
theorem C_set {w : World} {A : Option Addr} {n : Nat} {xs : List Int} (h : Kd.C (Kd.int .u8) w A n xs) {p : Addr} (hp : ∃ a n c, w.cell? p = some (.slice a n c)) (v : Value) : Kd.C (Kd.int .u8) (w.setCell p v) A n xs :=
  ⟨h.1, h.2.1, fun hn => by
    obtain ⟨ad, e, hc⟩ := h.2.2 hn
    refine ⟨ad, e, fun j x hj => ?_⟩
    obtain ⟨c, hz, hK, hcell⟩ := hc j x hj
    refine ⟨c, hz, hK, fun i u hu => ?_⟩
    have h1 := hcell i u hu
    obtain ⟨a, m, q, hp⟩ := hp
    have hu2 : ∃ y, u = .int .u8 y := by
      have hK : c = [.int .u8 x] := hK
      rw [hK] at hu
      cases i with
      | zero => exact ⟨x, by simpa using hu.symm⟩
      | succ i => simp at hu
    obtain ⟨y, rfl⟩ := hu2
    rw [World.cell?_setCell_other (h := fun e => by rw [← e, hp] at h1; cases h1)]
    exact h1⟩
theorem same_then (h : RIx w F g gs gw 3 sz mx ck ks wn) (h5 : 5 ≤ sz) (A : Option Addr) (c : Nat) (l : List Int) (hC : Kd.C (Kd.int .u8) w A l.length l) (hlc : l.length ≤ c) (hin : InOk sz l) (n : Nat) :
    Calls Try.prog 77 #[.pointer (some ⟨g, 0, none⟩), .slice A l.length c] (w.drewN n) fun e w' => e = .returned (.int .i64 (sameAt (cut l) ks 0)) ∧ Below w.heap.size w w' :=
  (Same_3 (h.drewN n) h5 A c l (Kd.C_drewN hC n) hlc hin.1 hin.2.1).mono fun e w' ⟨h1, h2⟩ => ⟨h1, ⟨h2.os, h2.tape, h2.output, h2.size, h2.block⟩⟩
theorem Put_no3 (h : RIx w F g gs gw 3 sz mx ck ks wn) (h5 : 5 ≤ sz) (A : Option Addr) (c : Nat) (l : List Int) (f : Int) (hC : Kd.C (Kd.int .u8) w A l.length l) (hlc : l.length ≤ c) (hb : Bs l) (hin : ¬ InOk sz l) :
    Calls Try.prog 59 #[.pointer (some ⟨g, 0, none⟩), .slice A l.length c, .int .u64 f] w fun e w' => e = .returned (.tuple #[.int .i64 0, .bool false, .int .i64 2]) ∧ ∃ n, w' = w.drewN n := by
  have HFI := Lib.hid (Fits_3 h h5 A c l hC hlc hb)
  rw [decide_eq_false (fun h => hin ⟨h.1, hb, h.2⟩)] at HFI
  clear h hC hb hin
  go_enter Try.func59, Try.ntmps59
  go_wp2_with fail
  refine HFI.out.mono ?_
  rintro e w1 ⟨rfl, n, rfl⟩
  go_wp2
  go_ret3
  exact ⟨rfl, ⟨_, rfl⟩⟩
theorem Del_no3 (h : RIx w F g gs gw 3 sz mx ck ks wn) (h5 : 5 ≤ sz) (A : Option Addr) (c : Nat) (l : List Int) (hC : Kd.C (Kd.int .u8) w A l.length l) (hlc : l.length ≤ c) (hb : Bs l) (hin : ¬ InOk sz l) :
    Calls Try.prog 60 #[.pointer (some ⟨g, 0, none⟩), .slice A l.length c] w fun e w' => e = .returned (.tuple #[.int .i64 0, .int .i64 2]) ∧ ∃ n, w' = w.drewN n := by
  have HFI := Lib.hid (Fits_3 h h5 A c l hC hlc hb)
  rw [decide_eq_false (fun h => hin ⟨h.1, hb, h.2⟩)] at HFI
  obtain ⟨c1, c2, g0, g1, g2, g3, g4, g5, gf, hc1, hc2⟩ := h.cells
  have H := Lib.hid h
  clear h hC hb hin g1 g2 g3 g4 g5 gf hc1 hc2
  go_enter Try.func60, Try.ntmps60
  go_wp2_with fail
  have g0' : ∀ n, (w.drewN n).cell? ⟨g, 0, none⟩ = some (.int .i64 3) := fun _ => g0
  refine HFI.out.mono ?_
  rintro e w1 ⟨rfl, n, rfl⟩
  go_wp2
  go_ret2
  exact ⟨rfl, ⟨_, rfl⟩⟩
theorem Put_fl3 (h : RIx w F g gs gw 3 sz mx ck ks wn) (h5 : 5 ≤ sz) (A : Option Addr) (c : Nat) (l : List Int) (f : Int) (hC : Kd.C (Kd.int .u8) w A l.length l) (hlc : l.length ≤ c) (hin : InOk sz l) (hf : f > 2) :
    Calls Try.prog 59 #[.pointer (some ⟨g, 0, none⟩), .slice A l.length c, .int .u64 f] w fun e w' => e = .returned (.tuple #[.int .i64 0, .bool false, .int .i64 72]) ∧ ∃ n, w' = w.drewN n := by
  have HFI := Lib.hid (Fits_3 h h5 A c l hC hlc hin.2.1)
  rw [decide_eq_true (show (l.length : Int) = sz ∧ nb l ≤ 8 * (sz - 4) from ⟨hin.1, hin.2.2⟩)] at HFI
  clear h hC hin
  go_enter Try.func59, Try.ntmps59
  go_wp2_with fail
  refine HFI.out.mono ?_
  rintro e w1 ⟨rfl, n, rfl⟩
  go_wp2
  go_ret3
  exact ⟨rfl, ⟨_, rfl⟩⟩
theorem Put_ex3 (h : RIx w F g gs gw 3 sz mx ck ks wn) (h5 : 5 ≤ sz) (A : Option Addr) (c : Nat) (l : List Int) (hC : Kd.C (Kd.int .u8) w A l.length l) (hlc : l.length ≤ c) (hin : InOk sz l) (i : Nat) (hs : sameAt (cut l) ks 0 = (i : Int)) :
    Calls Try.prog 59 #[.pointer (some ⟨g, 0, none⟩), .slice A l.length c, .int .u64 1] w fun e w' => e = .returned (.tuple #[.int .i64 0, .bool false, .int .i64 70]) ∧ Below w.heap.size w w' := by
  have HFI := Lib.hid (Fits_3 h h5 A c l hC hlc hin.2.1)
  rw [decide_eq_true (show (l.length : Int) = sz ∧ nb l ≤ 8 * (sz - 4) from ⟨hin.1, hin.2.2⟩)] at HFI
  obtain ⟨c1, c2, g0, g1, g2, g3, g4, g5, gf, hc1, hc2⟩ := h.cells
  have H := Lib.hid h
  have HSA := Lib.hid (same_then h h5 A c l hC hlc hin)
  have hll : 5 ≤ l.length ∧ l.length ≤ 16 := by have := hin.1; have := h.szs; omega
  clear h hC hin g1 g2 g4 g5 gf hc1 hc2
  go_enter Try.func59, Try.ntmps59
  go_wp2_with fail
  refine HFI.out.mono ?_
  rintro e w1 ⟨rfl, n, rfl⟩
  go_wp2_with fail
  refine (HSA.out n).mono ?_
  rintro e w2 ⟨rfl, hB2⟩
  rw [hs]
  have HSM := Lib.hid hs
  have g0' := old hB2 g0
  have g3' := old hB2 g3
  have HB2 := Lib.hid hB2
  clear hB2 HFI HSA hs g0 g3
  go_wp2
  go_ret3
  exact ⟨rfl, HB2.out⟩
theorem Put_nn3 (h : RIx w F g gs gw 3 sz mx ck ks wn) (h5 : 5 ≤ sz) (A : Option Addr) (c : Nat) (l : List Int) (hC : Kd.C (Kd.int .u8) w A l.length l) (hlc : l.length ≤ c) (hin : InOk sz l) (hs : sameAt (cut l) ks 0 = -1) :
    Calls Try.prog 59 #[.pointer (some ⟨g, 0, none⟩), .slice A l.length c, .int .u64 2] w fun e w' => e = .returned (.tuple #[.int .i64 0, .bool false, .int .i64 14]) ∧ Below w.heap.size w w' := by
  have HFI := Lib.hid (Fits_3 h h5 A c l hC hlc hin.2.1)
  rw [decide_eq_true (show (l.length : Int) = sz ∧ nb l ≤ 8 * (sz - 4) from ⟨hin.1, hin.2.2⟩)] at HFI
  obtain ⟨c1, c2, g0, g1, g2, g3, g4, g5, gf, hc1, hc2⟩ := h.cells
  have H := Lib.hid h
  have HSA := Lib.hid (same_then h h5 A c l hC hlc hin)
  have hll : 5 ≤ l.length ∧ l.length ≤ 16 := by have := hin.1; have := h.szs; omega
  clear h hC hin g1 g2 g4 g5 gf hc1 hc2
  go_enter Try.func59, Try.ntmps59
  go_wp2_with fail
  refine HFI.out.mono ?_
  rintro e w1 ⟨rfl, n, rfl⟩
  go_wp2_with fail
  refine (HSA.out n).mono ?_
  rintro e w2 ⟨rfl, hB2⟩
  rw [hs]
  have HSM := Lib.hid hs
  have g0' := old hB2 g0
  have g3' := old hB2 g3
  have HB2 := Lib.hid hB2
  clear hB2 HFI HSA hs g0 g3
  go_wp2
  go_ret3
  exact ⟨rfl, HB2.out⟩
theorem Put_ag3 (h : RIx w F g gs gw 3 sz mx ck ks wn) (h5 : 5 ≤ sz) (A : Option Addr) (c : Nat) (l : List Int) (f : Int) (hC : Kd.C (Kd.int .u8) w A l.length l) (hlc : l.length ≤ c) (hck : ck < 4611686018427387904) (hin : InOk sz l) (hf : ¬ f > 2) (hf1 : f ≠ 1) (i : Nat) (hi : i < ks.length) (hs : sameAt (cut l) ks 0 = (i : Int)) :
    Calls Try.prog 59 #[.pointer (some ⟨g, 0, none⟩), .slice A l.length c, .int .u64 f] w fun e w' => e = .returned (.tuple #[.int .i64 (i : Int), .bool false, .int .i64 0]) ∧ RIx w' F g gs gw 3 sz mx (ck + 1) ks (touched wn (i : Int) (ck + 1)) ∧ Step w w' F F := by
  have HFI := Lib.hid (Fits_3 h h5 A c l hC hlc hin.2.1)
  rw [decide_eq_true (show (l.length : Int) = sz ∧ nb l ≤ 8 * (sz - 4) from ⟨hin.1, hin.2.2⟩)] at HFI
  obtain ⟨c1, c2, g0, g1, g2, g3, g4, g5, gf, hc1, hc2⟩ := h.cells
  have H := Lib.hid h
  have HSA := Lib.hid (same_then h h5 A c l hC hlc hin)
  have hll : 5 ≤ l.length ∧ l.length ≤ 16 := by have := hin.1; have := h.szs; omega
  have bf : (f == 1) = false := by simpa using hf1
  clear hf1
  clear h hC hin g1 g2 g4 g5 gf hc1 hc2
  go_enter Try.func59, Try.ntmps59
  go_wp2_with fail
  refine HFI.out.mono ?_
  rintro e w1 ⟨rfl, n, rfl⟩
  go_wp2_with fail
  refine (HSA.out n).mono ?_
  rintro e w2 ⟨rfl, hB2⟩
  rw [hs]
  have HSM := Lib.hid hs
  have g0' := old hB2 g0
  have g3' := old hB2 g3
  have HB2 := Lib.hid hB2
  clear hB2 HFI HSA hs g0 g3
  have HDO := Lib.hid (touch_ (H.out.below HB2.out) hck (i : Int) (.inr ⟨i, rfl, hi⟩))
  go_wp2_with fail
  refine HDO.out.mono ?_
  rintro e w9 ⟨rfl, hR9, hS9⟩
  have HR9 := Lib.hid hR9; have HS9 := Lib.hid ((Step.of_below HB2.out F).trans hS9)
  clear hR9 hS9 HDO
  go_wp2
  go_ret3
  exact ⟨rfl, HR9.out, HS9.out⟩
theorem Put_fu3 (h : RIx w F g gs gw 3 sz mx ck ks wn) (h5 : 5 ≤ sz) (A : Option Addr) (c : Nat) (l : List Int) (f : Int) (hC : Kd.C (Kd.int .u8) w A l.length l) (hlc : l.length ≤ c) (hin : InOk sz l) (hf : ¬ f > 2) (hf2 : f ≠ 2) (hs : sameAt (cut l) ks 0 = -1) (hfree : freeAt ks 0 = -1) :
    Calls Try.prog 59 #[.pointer (some ⟨g, 0, none⟩), .slice A l.length c, .int .u64 f] w fun e w' => e = .returned (.tuple #[.int .i64 0, .bool false, .int .i64 71]) ∧ Below w.heap.size w w' := by
  have HFI := Lib.hid (Fits_3 h h5 A c l hC hlc hin.2.1)
  rw [decide_eq_true (show (l.length : Int) = sz ∧ nb l ≤ 8 * (sz - 4) from ⟨hin.1, hin.2.2⟩)] at HFI
  obtain ⟨c1, c2, g0, g1, g2, g3, g4, g5, gf, hc1, hc2⟩ := h.cells
  have H := Lib.hid h
  have HSA := Lib.hid (same_then h h5 A c l hC hlc hin)
  have hll : 5 ≤ l.length ∧ l.length ≤ 16 := by have := hin.1; have := h.szs; omega
  have bf : (f == 2) = false := by simpa using hf2
  clear hf2
  have HFR := Lib.hid hfree
  clear hfree
  clear h hC hin g1 g2 g4 g5 gf hc1 hc2
  go_enter Try.func59, Try.ntmps59
  go_wp2_with fail
  refine HFI.out.mono ?_
  rintro e w1 ⟨rfl, n, rfl⟩
  go_wp2_with fail
  refine (HSA.out n).mono ?_
  rintro e w2 ⟨rfl, hB2⟩
  rw [hs]
  have HSM := Lib.hid hs
  have g0' := old hB2 g0
  have g3' := old hB2 g3
  have HB2 := Lib.hid hB2
  clear hB2 HFI HSA hs g0 g3
  obtain ⟨vs, hv, hr, hkv⟩ := (H.out.below HB2.out).row
  have hlen := H.out.len
  have HV := Lib.hid hv; have HR := Lib.hid hr; have HKV := Lib.hid hkv
  clear hv hr hkv
  go_wp2
  go_loop [9, 11] (fun v i => ∃ (k : Nat) (x : Int), k ≤ ks.length ∧ i = .int .i64 x ∧ Hid (x = (k : Int) - 1) ∧ v = .int .i64 (freeAt (ks.drop k) k)) (fun _ i => (intOf i + 1).toNat)
  case atStart => exact ⟨ks.length, _, Nat.le_refl _, rfl, Lib.hid rfl, by rw [List.drop_eq_nil_of_le (Nat.le_refl _)]; rfl⟩
  case round =>
    obtain ⟨k, x, hk, rfl, HX, rfl⟩ := hrel
    cases k with
    | zero =>
      obtain rfl : x = -1 := by have := HX.out; omega
      rw [List.drop_zero, HFR.out]
      go_wp2
      go_ret3
      exact ⟨rfl, HB2.out⟩
    | succ j =>
      obtain rfl : x = (j : Int) := by have := HX.out; omega
      have hcell := HR.out.cell j (by rw [HV.out]; omega)
      generalize hvk : vs[j]'(by rw [HV.out]; omega) = v at hcell
      have hvs : vs[j]? = some v := by rw [List.getElem?_eq_getElem (by rw [HV.out]; omega), hvk]
      cases hkk : ks[j]'(by omega) with
      | none =>
        have hks : ks[j]? = some none := by rw [List.getElem?_eq_getElem (by omega), hkk]
        obtain rfl : v = .slice none 0 0 := HKV.out j v none hvs hks
        have hq := fun W => run_eql_slice_nil_any (P := Try.prog) W 32 5 none 0 0 0 0 Try.underlying32
        have HS2 := Lib.hid (free_none hks)
        generalize freeAt (ks.drop (j + 1)) (j + 1) = r
        clear hvk hvs hkk hks HX
        go_wp2
        go_round
        case rel => exact ⟨j, _, by omega, rfl, Lib.hid rfl, by rw [HS2.out]⟩
        case measure => simp [intOf] <;> omega
      | some l' =>
        have hks : ks[j]? = some (some l') := by rw [List.getElem?_eq_getElem (by omega), hkk]
        obtain ⟨b, cb, rfl, hb1, hbF, hrow⟩ := HKV.out j v (some l') hvs hks
        have hq := fun W => run_eql_slice_nil_any (P := Try.prog) W 32 5 (some ⟨b, 0, none⟩) l'.length cb 0 0 Try.underlying32
        have HS2 := Lib.hid (free_some hks)
        generalize hrr : freeAt (ks.drop (j + 1)) (j + 1) = r at *
        clear hvk hvs hkk hks HX hrow hbF hb1 hrr
        go_wp2
        go_round
        case rel => exact ⟨j, _, by omega, rfl, Lib.hid rfl, by rw [HS2.out]⟩
        case measure => simp [intOf] <;> omega
set_option maxHeartbeats 4000000 in
set_option maxRecDepth 100000 in
theorem Put_ne3 (h : RIx w F g gs gw 3 sz mx ck ks wn) (h5 : 5 ≤ sz) (A : Option Addr) (c : Nat) (l : List Int) (f : Int) (hC : Kd.C (Kd.int .u8) w A l.length l) (hlc : l.length ≤ c) (hck : ck < 4611686018427387904) (hks : KsOk sz ks) (hin : InOk sz l) (hf : ¬ f > 2) (hf2 : f ≠ 2) (hs : sameAt (cut l) ks 0 = -1) (i : Nat) (hfree : freeAt ks 0 = (i : Int)) (hi : i < ks.length) :
    Calls Try.prog 59 #[.pointer (some ⟨g, 0, none⟩), .slice A l.length c, .int .u64 f] w fun e w' => e = .returned (.tuple #[.int .i64 (i : Int), .bool true, .int .i64 0]) ∧ ∃ F', RIx w' F' g gs gw 3 sz mx (ck + 1) (ks.set i (some (cut l))) (touched wn (i : Int) (ck + 1)) ∧ Step w w' F F' := by
  have HFI := Lib.hid (Fits_3 h h5 A c l hC hlc hin.2.1)
  rw [decide_eq_true (show (l.length : Int) = sz ∧ nb l ≤ 8 * (sz - 4) from ⟨hin.1, hin.2.2⟩)] at HFI
  obtain ⟨c1, c2, g0, g1, g2, g3, g4, g5, gf, hc1, hc2⟩ := h.cells
  have H := Lib.hid h
  have HSA := Lib.hid (same_then h h5 A c l hC hlc hin)
  have hll : 5 ≤ l.length ∧ l.length ≤ 16 := by have := hin.1; have := h.szs; omega
  have bf : (f == 2) = false := by simpa using hf2
  clear hf2
  have HFR := Lib.hid hfree
  clear hfree
  have HC := Lib.hid hC; have HIN := Lib.hid hin
  have HI := Lib.hid hi
  have HCK := Lib.hid (cutOk hin h5)
  have HCU := Lib.hid (fun W (hB : Below w.heap.size w W) => Cut_ W A c l (Kd.C_below hC hB) hlc (by have := hin.1; omega) (by have := hin.1; have := h.szs; omega) hin.2.1)
  have hne := h.ne.1
  have HSLV : Hid (∀ W, Below w.heap.size w W → ∃ a n c, W.cell? ⟨gs, i, none⟩ = some (.slice a n c)) := Lib.hid (fun W hB => by
    obtain ⟨vs, hv, hr, hkv⟩ := h.row
    have hiv : i < vs.length := by rw [hv]; exact hi
    have hc := old hB (hr.cell i hiv)
    have hk := hkv i (vs[i]'hiv) (ks[i]'hi) (List.getElem?_eq_getElem hiv) (List.getElem?_eq_getElem hi)
    cases hkk : ks[i]'hi with
    | none => rw [hkk] at hk; exact ⟨_, _, _, hc.trans (congrArg some hk)⟩
    | some l' => rw [hkk] at hk; obtain ⟨b, cc, e, _⟩ := hk; exact ⟨_, _, _, hc.trans (congrArg some e)⟩)
  clear hi
  clear h hC hin g1 g2 g4 g5 gf hc1 hc2
  go_enter Try.func59, Try.ntmps59
  go_wp2_with fail
  refine HFI.out.mono ?_
  rintro e w1 ⟨rfl, n, rfl⟩
  go_wp2_with fail
  refine (HSA.out n).mono ?_
  rintro e w2 ⟨rfl, hB2⟩
  rw [hs]
  have HSM := Lib.hid hs
  have g0' := old hB2 g0
  have g3' := old hB2 g3
  have HB2 := Lib.hid hB2
  clear hB2 HFI HSA hs g0 g3
  obtain ⟨vs, hv, hr, hkv⟩ := (H.out.below HB2.out).row
  have hlen := H.out.len
  have HV := Lib.hid hv; have HR := Lib.hid hr; have HKV := Lib.hid hkv
  clear hv hr hkv
  go_wp2
  go_loop [9, 11] (fun v i => ∃ (k : Nat) (x : Int), k ≤ ks.length ∧ i = .int .i64 x ∧ Hid (x = (k : Int) - 1) ∧ v = .int .i64 (freeAt (ks.drop k) k)) (fun _ i => (intOf i + 1).toNat)
  case atStart => exact ⟨ks.length, _, Nat.le_refl _, rfl, Lib.hid rfl, by rw [List.drop_eq_nil_of_le (Nat.le_refl _)]; rfl⟩
  case round =>
    obtain ⟨k, x, hk, rfl, HX, rfl⟩ := hrel
    cases k with
    | zero =>
      obtain rfl : x = -1 := by have := HX.out; omega
      rw [List.drop_zero, HFR.out]
      have hi := HI.out
      have hst := HR.out.cell i (by rw [HV.out]; exact hi)
      generalize vs[i]'(by rw [HV.out]; exact hi) = u at hst
      have hsf := HR.out.frozen i
      have ga3 : ∀ o, (w2.alloc o).cell? ⟨g, 3, none⟩ = some (.slice (some ⟨gs, 0, none⟩) ks.length c1) := fun o => old (below_alloc (Below.refl w2.heap.size w2) o) g3'
      have gd3 : ∀ n o, ((w2.drewN n).alloc o).cell? ⟨g, 3, none⟩ = some (.slice (some ⟨gs, 0, none⟩) ks.length c1) := fun n o => old (below_alloc (pw_below_drewN (Below.refl w2.heap.size w2) n) o) g3'
      clear HX hk
      go_wp2
      go_region_law (first
        | (refine Kd.R_append_rows_step (Kd.int .u8) (w0 := w2) w2.heap.size (by rfl) (.tmp 106) (.tmp 107) 32 5 (.int .u8 0) 1 rfl Try.underlying32 info5 rfl (by decide) (by omega) _ ([] : List Int) l _ _ _ (fun _ => True) (fun _ => False) rfl rfl ?aO ?aC (fun _ _ h => h) (fun _ h => h.elim) (fun _ _ => trivial) ?aB ?aS ?aL ?_
           (case aO => exact emptyR (heap_alloc_new _ _) (Nat.le_refl _))
           (case aC => exact Kd.C_alloc (by first | exact Kd.C_drewN (Kd.C_below HC.out HB2.out) _ | exact Kd.C_below HC.out HB2.out) _)
           (case aB => repeat (first | (with_reducible first | exact Below.refl _ _ | apply below_alloc | apply pw_below_drewN | apply below_drew1) | exact Below.refl _ _))
           (case aS => simp)
           (case aL => first | (simp; done) | (simp; omega; done))
           intro v1 w7 ho hb hg hat
           obtain ⟨b7, c7, rfl, k1, k2, _, k3⟩ := keyR ho (show 0 < l.length by omega)
           have g37 := old hb g3'
           have g07 := old hb g0'
           have hst7 := old hb hst
           have hsf7 := oldf hb HR.out i
           have HB7 := Lib.hid hb; have HK7 := Lib.hid (And.intro k1 (And.intro k2 k3))
           clear ho hb hg hat k1 k2 k3)
        | fail)
      all_goals
        have hB27 : Below w.heap.size w w7 := HB2.out.trans ((show Below w2.heap.size w2 w7 from HB7.out).mono HB2.out.size)
        have hb7 : w.heap.size ≤ b7 := Nat.le_trans HB2.out.size (by simpa using HK7.out.2.1)
        have h7 := (H.out.below hB27).mono (F' := fun b => F b ∨ b = b7) (fun b hb => .inl hb) (fun b hb => hb.elim (fun hb => Nat.lt_of_lt_of_le (H.out.lt b hb) hB27.size) (fun e => e ▸ HK7.out.2.2.lt))
        have HR8 := Lib.hid (h7.key i HI.out (.slice (some ⟨b7, 0, none⟩) l.length c7) (some l) ⟨b7, c7, rfl, HK7.out.1, .inr rfl, HK7.out.2.2⟩ (fun l' e => by cases e; exact ⟨HIN.out.1, HIN.out.2.1⟩))
        have HS8 : Hid (Step w (w7.setCell ⟨gs, i, none⟩ (.slice (some ⟨b7, 0, none⟩) l.length c7)) F (fun b => F b ∨ b = b7)) := Lib.hid ((((Step.of_below hB27 F).setCell (p := ⟨gs, i, none⟩) (.inl H.out.inF.2.1) (.slice (some ⟨b7, 0, none⟩) l.length c7))).to (fun b hb => hb.imp id (fun e => by subst e; exact hb7)))
        have hC8 := C_set (Kd.C_below HC.out hB27) (p := ⟨gs, i, none⟩) (HSLV.out w7 hB27) (.slice (some ⟨b7, 0, none⟩) l.length c7)
        have HCU8 := Lib.hid (fun n => Cut_ ((w7.setCell ⟨gs, i, none⟩ (.slice (some ⟨b7, 0, none⟩) l.length c7)).drewN n) A c l (Kd.C_drewN hC8 n) hlc (by omega) (by omega) HIN.out.2.1)
        obtain ⟨d1, d2, q0, q1, q2, q3, q4, q5, qf, qc1, qc2⟩ := HR8.out.cells
        obtain ⟨vs8, hv8, hr8, hk8⟩ := HR8.out.row
        have q6 := hr8.cell i (by rw [hv8, List.length_set]; exact HI.out)
        have q7 := hr8.frozen i
        generalize vs8[i]'(by rw [hv8, List.length_set]; exact HI.out) = u8 at q6
        rw [List.length_set] at q3
        have HRW8 := Lib.hid hr8
        clear q1 q2 q4 q5 qf qc1 qc2 hv8 hk8 hr8 hb7 h7 hC8 hB27 ga3 gd3 hst hsf hst7 hsf7 g37 g07 g0' g3'
        generalize hW8 : w7.setCell ⟨gs, i, none⟩ (.slice (some ⟨b7, 0, none⟩) l.length c7) = w8 at *
        clear hW8
        go_wp2_with fail
        go_region_with (go_at_call 79; refine ((HCU8.out _).mono ?_); rintro e w9 ⟨v9, rfl, hR9, hB9⟩; obtain ⟨b9, c9, rfl, k1, k2, _, k3⟩ := keyR hR9 (by rw [cut_len (by omega)]; omega); have q39 := old hB9 (show w8.drew.cell? _ = _ from q3); have q69 := old hB9 (show w8.drew.cell? _ = _ from q6); have q79 := oldf hB9 (show Row w8.drew gs 32 vs8 from HRW8.out) i; have HB9 : Hid (Below w8.heap.size w8 w9) := Lib.hid ⟨hB9.os, hB9.tape, hB9.output, hB9.size, hB9.block⟩; have HK9 : Hid ((cut l).length ≤ c9 ∧ w8.heap.size ≤ b9 ∧ Row w9 b9 5 ((cut l).map (Value.int .u8))) := Lib.hid ⟨k1, k2, k3⟩; clear hR9 hB9 k1 k2 k3)
        all_goals
          have h9 := (HR8.out.below HB9.out).mono (F' := fun b => (F b ∨ b = b7) ∨ b = b9) (fun b hb => .inl hb) (fun b hb => hb.elim (fun hb => Nat.lt_of_lt_of_le (HR8.out.lt b hb) HB9.out.size) (fun e => e ▸ HK9.out.2.2.lt))
          have HR10 := Lib.hid (h9.key i (by rw [List.length_set]; exact HI.out) (.slice (some ⟨b9, 0, none⟩) (cut l).length c9) (some (cut l)) ⟨b9, c9, rfl, HK9.out.1, .inr rfl, HK9.out.2.2⟩ (fun l' e => by cases e; exact ⟨HCK.out.1, HCK.out.2.1⟩))
          rw [List.set_set] at HR10
          have HS10 : Hid (Step w (w9.setCell ⟨gs, i, none⟩ (.slice (some ⟨b9, 0, none⟩) (cut l).length c9)) F (fun b => (F b ∨ b = b7) ∨ b = b9)) := Lib.hid ((((HS8.out.trans (Step.of_below HB9.out _)).setCell (p := ⟨gs, i, none⟩) (.inl H.out.inF.2.1) (.slice (some ⟨b9, 0, none⟩) (cut l).length c9))).to (fun b hb => hb.imp id (fun e => by subst e; exact Nat.le_trans HS8.out.size HK9.out.2.1)))
          have HDO := Lib.hid (touch_ HR10.out hck (i : Int) (.inr ⟨i, rfl, by rw [List.length_set]; exact HI.out⟩))
          clear h9 q0 q3 q6 q7 q39 q69 q79
          go_wp2_with fail
          refine HDO.out.mono ?_
          rintro e w11 ⟨rfl, hR11, hS11⟩
          have HR11 := Lib.hid hR11; have HS11 := Lib.hid (HS10.out.trans hS11)
          clear hR11 hS11 HDO
          go_wp2
          go_ret3
          exact ⟨rfl, _, HR11.out, HS11.out⟩
    | succ j =>
      obtain rfl : x = (j : Int) := by have := HX.out; omega
      have hcell := HR.out.cell j (by rw [HV.out]; omega)
      generalize hvk : vs[j]'(by rw [HV.out]; omega) = v at hcell
      have hvs : vs[j]? = some v := by rw [List.getElem?_eq_getElem (by rw [HV.out]; omega), hvk]
      cases hkk : ks[j]'(by omega) with
      | none =>
        have hks : ks[j]? = some none := by rw [List.getElem?_eq_getElem (by omega), hkk]
        obtain rfl : v = .slice none 0 0 := HKV.out j v none hvs hks
        have hq := fun W => run_eql_slice_nil_any (P := Try.prog) W 32 5 none 0 0 0 0 Try.underlying32
        have HS2 := Lib.hid (free_none hks)
        generalize freeAt (ks.drop (j + 1)) (j + 1) = r
        clear hvk hvs hkk hks HX
        go_wp2
        go_round
        case rel => exact ⟨j, _, by omega, rfl, Lib.hid rfl, by rw [HS2.out]⟩
        case measure => simp [intOf] <;> omega
      | some l' =>
        have hks : ks[j]? = some (some l') := by rw [List.getElem?_eq_getElem (by omega), hkk]
        obtain ⟨b, cb, rfl, hb1, hbF, hrow⟩ := HKV.out j v (some l') hvs hks
        have hq := fun W => run_eql_slice_nil_any (P := Try.prog) W 32 5 (some ⟨b, 0, none⟩) l'.length cb 0 0 Try.underlying32
        have HS2 := Lib.hid (free_some hks)
        generalize hrr : freeAt (ks.drop (j + 1)) (j + 1) = r at *
        clear hvk hvs hkk hks HX hrow hbF hb1 hrr
        go_wp2
        go_round
        case rel => exact ⟨j, _, by omega, rfl, Lib.hid rfl, by rw [HS2.out]⟩
        case measure => simp [intOf] <;> omega
theorem Del_nn3 (h : RIx w F g gs gw 3 sz mx ck ks wn) (h5 : 5 ≤ sz) (A : Option Addr) (c : Nat) (l : List Int) (hC : Kd.C (Kd.int .u8) w A l.length l) (hlc : l.length ≤ c) (hin : InOk sz l) (hs : sameAt (cut l) ks 0 = -1) :
    Calls Try.prog 60 #[.pointer (some ⟨g, 0, none⟩), .slice A l.length c] w fun e w' => e = .returned (.tuple #[.int .i64 0, .int .i64 14]) ∧ Below w.heap.size w w' := by
  have HFI := Lib.hid (Fits_3 h h5 A c l hC hlc hin.2.1)
  rw [decide_eq_true (show (l.length : Int) = sz ∧ nb l ≤ 8 * (sz - 4) from ⟨hin.1, hin.2.2⟩)] at HFI
  obtain ⟨c1, c2, g0, g1, g2, g3, g4, g5, gf, hc1, hc2⟩ := h.cells
  have H := Lib.hid h
  have HSA := Lib.hid (same_then h h5 A c l hC hlc hin)
  have hll : 5 ≤ l.length ∧ l.length ≤ 16 := by have := hin.1; have := h.szs; omega
  clear h hC hin g1 g2 g4 g5 gf hc1 hc2
  go_enter Try.func60, Try.ntmps60
  go_wp2_with fail
  refine HFI.out.mono ?_
  rintro e w1 ⟨rfl, n, rfl⟩
  go_wp2_with fail
  refine (HSA.out n).mono ?_
  rintro e w2 ⟨rfl, hB2⟩
  rw [hs]
  have HSM := Lib.hid hs
  have g0' := old hB2 g0
  have g3' := old hB2 g3
  have HB2 := Lib.hid hB2
  clear hB2 HFI HSA hs g0 g3
  go_wp2
  go_ret2
  exact ⟨rfl, HB2.out⟩
theorem Del_3 (h : RIx w F g gs gw 3 sz mx ck ks wn) (h5 : 5 ≤ sz) (A : Option Addr) (c : Nat) (l : List Int) (hC : Kd.C (Kd.int .u8) w A l.length l) (hlc : l.length ≤ c) (hin : InOk sz l) (i : Nat) (hi : i < ks.length) (hs : sameAt (cut l) ks 0 = (i : Int)) :
    Calls Try.prog 60 #[.pointer (some ⟨g, 0, none⟩), .slice A l.length c] w fun e w' => e = .returned (.tuple #[.int .i64 (i : Int), .int .i64 0]) ∧ RIx w' F g gs gw 3 sz mx ck (ks.set i none) wn ∧ Step w w' F F := by
  have HFI := Lib.hid (Fits_3 h h5 A c l hC hlc hin.2.1)
  rw [decide_eq_true (show (l.length : Int) = sz ∧ nb l ≤ 8 * (sz - 4) from ⟨hin.1, hin.2.2⟩)] at HFI
  obtain ⟨c1, c2, g0, g1, g2, g3, g4, g5, gf, hc1, hc2⟩ := h.cells
  have H := Lib.hid h
  have HSA := Lib.hid (same_then h h5 A c l hC hlc hin)
  have hll : 5 ≤ l.length ∧ l.length ≤ 16 := by have := hin.1; have := h.szs; omega
  have HI := Lib.hid hi
  clear h hC hin g1 g2 g4 g5 gf hc1 hc2
  go_enter Try.func60, Try.ntmps60
  go_wp2_with fail
  refine HFI.out.mono ?_
  rintro e w1 ⟨rfl, n, rfl⟩
  go_wp2_with fail
  refine (HSA.out n).mono ?_
  rintro e w2 ⟨rfl, hB2⟩
  rw [hs]
  have HSM := Lib.hid hs
  have g0' := old hB2 g0
  have g3' := old hB2 g3
  have HB2 := Lib.hid hB2
  clear hB2 HFI HSA hs g0 g3
  have hR2 := H.out.below HB2.out
  obtain ⟨vs, hv, hr, hkv⟩ := hR2.row
  have hcell := hr.cell i (by rw [hv]; exact HI.out)
  generalize vs[i]'(by rw [hv]; exact HI.out) = u at hcell
  have hcf := hr.frozen i
  have HR8 := Lib.hid (hR2.key i HI.out (.slice none 0 0) none rfl (fun l' e => by cases e))
  have HS8 := Lib.hid ((Step.of_below HB2.out F).setCell (p := ⟨gs, i, none⟩) (.inl H.out.inF.2.1) (.slice none 0 0))
  have hi0 : ¬ ((i : Int) < 0) := by omega
  clear hR2 hv hr hkv
  go_wp2
  go_ret2
  exact ⟨rfl, HR8.out, HS8.out⟩
end
end Go.Proofs.Ytfbajampfiodeaa.LpmU
