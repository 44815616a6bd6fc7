/- The document's index (posternref06.Index), of the kinds 1 and 2: Put of a new key, walked by hand. -/
import Derived.Test.YtfbajampfiodeaaRxOps
import Derived.Deep.RegionLaw
import Derived.Deep.RegionWith
import Derived.Laws.MakeOwn
import Derived.OwnWalk
namespace Go.Proofs.Ytfbajampfiodeaa.RxPut
open Go.RowKit Go.Proofs.Ytfbajampfiodeaa.PArrayPlays Go.Proofs.YtfbajampfiodeaaW.PrintWords Go.Proofs.YtfbajampfiodeaaW.PrintLast Go.Proofs.YtfbajampfiodeaaW.PrintMore Go.Proofs.Ytfbajampfiodeaa.Mw Go.Proofs.Ytfbajampfiodeaa.Rx Go.Proofs.Ytfbajampfiodeaa.RxOps
set_option linter.unusedVariables false
theorem oldf {w w' : World} {b t : Nat} {vs : List Value} (hb : Below w.heap.size w w') (h : Row w b t vs) (i : Nat) : w'.frozen? ⟨b, i, none⟩ = false := (h.keep (hb.block b h.lt)).frozen i
theorem old {w w' : World} (hb : Below w.heap.size w w') {p : Addr} {v : Value} (h : w.cell? p = some v) : w'.cell? p = some v := (hb.cell (World.block_lt_of_cell? w p h)).trans h
theorem drew2 (w : World) (a b : Nat) : (w.drewN a).drewN b = w.drewN (a + b) := by simp [World.drewN, Nat.add_assoc]
/-- An empty row of the call's own. -/
theorem emptyR {w : World} {B b : Nat} (h : w.heap[b]? = some (.cells #[] 5 (0, 0))) (hB : B ≤ b) : Kd.R (Kd.int .u8) 5 w B (fun _ => True) (.slice (some ⟨b, 0, none⟩) 0 0) [] :=
  ⟨fun _ _ => trivial, [], ⟨rfl, .inr ⟨b, 0, #[], rfl, hB, h, Nat.le_refl _, by simp [maxLen], rfl, rfl⟩⟩, Reps.none _ _⟩
/-- What a row of the call's own holds. -/
theorem keyR {w : World} {B : Nat} {ok : Nat → Prop} {v : Value} {l : List Int} (h : Kd.R (Kd.int .u8) 5 w B ok v l) (hl : 0 < l.length) : ∃ b c, v = .slice (some ⟨b, 0, none⟩) l.length c ∧ l.length ≤ c ∧ B ≤ b ∧ ok b ∧ Row w b 5 (l.map (Value.int .u8)) := by
  obtain ⟨hok, inner, ⟨hlen, h2⟩, hr⟩ := h
  have hsz : (Kd.int .u8).sz = 1 := rfl
  rw [hsz] at hlen h2 hr
  rcases h2 with ⟨_, h2⟩ | ⟨g, cap, cur, rfl, hg, hh, hc1, hc2, hc3, hc4⟩
  · omega
  · have hi : inner = l.map (Value.int .u8) := by
      refine List.ext_getElem? fun j => ?_
      by_cases hj : j < l.length
      · have h3 := hr.2 j l[j] (List.getElem?_eq_getElem hj)
        have h3 : (inner.drop (j * 1)).take 1 = [Value.int .u8 l[j]] := h3
        have h4 : ((inner.drop (j * 1)).take 1)[0]? = some (Value.int .u8 l[j]) := by rw [h3]; rfl
        rw [List.getElem?_take_of_lt (by omega), List.getElem?_drop, Nat.mul_one, Nat.add_zero] at h4
        rw [h4, List.getElem?_map, List.getElem?_eq_getElem hj]
        rfl
      · rw [List.getElem?_eq_none (by omega), List.getElem?_eq_none (by simp; omega)]
    refine ⟨g, cap, rfl, hc1, hg, hok g (by simp [Value.ownBlock]), cur.toList.drop (l.length * 1), ?_⟩
    rw [hh, ← hi, ← hc4, List.take_append_drop]
/-- 'xs == nil' -/
theorem run_eql_slice_nil_any {P : Program} (w : World) (t e : TypeId) (a : Option Addr) (n c n' c' : Nat) (h : P.underlying t = some (.slice e)) :
    (binOp .eql t (.slice a n c) (.slice none n' c')).run P w = .ok (.bool a.isNone) w := by
  simp only [binOp]
  simp [Op.equal, Op.maxDepth, Lib.run_equalIn_slice_nil w 9999 t e a n c n' c' h]
section
variable {w : World} {F : Nat → Prop} {g gs gw : Nat} {kd sz mx ck : Int} {ks : List (Option (List Int))} {wn : List Int}
theorem RIx.tcell (h : RIx w F g gs gw kd sz mx ck ks wn) (i : Nat) (hi : i < ks.length) : w.cell? ⟨gw, i, none⟩ = some (.int .i64 (wn.getD i 0)) := by
  rw [h.wrow.cell i (by rw [List.length_map, h.wlen]; exact hi), List.getElem_map, List.getD_eq_getElem?_getD, List.getElem?_eq_getElem (by rw [h.wlen]; exact hi)]
  rfl
/-- All full. -/
theorem Put_no (h : RIx w F g gs gw kd sz mx ck ks wn) (hkd : kd = 1) (A : Option Addr) (c : Nat) (l : List Int) (f : Int) (hC : Kd.C (Kd.int .u8) w A l.length l) (hl : l.length ≤ c) (hsz : (l.length : Int) = sz) (hlb : ∀ x ∈ l, 0 ≤ x ∧ x ≤ 255) (hf : ¬ f > 2) (hs : sameAt l ks 0 < 0) (hf2 : f ≠ 2) (hfree : freeAt ks 0 < 0) :
    Calls Try.prog 59 #[.pointer (some ⟨g, 0, none⟩), .slice A l.length c, .int .u64 f] w fun e w' => e = .returned (.tuple #[.int .i64 0, .bool false, .int .i64 71]) ∧ ∃ n, w' = w.drewN n := by
  have H := Lib.hid h
  have HC := Lib.hid hC; have HLB := Lib.hid hlb
  clear h hC hlb
  subst hkd
  have bf : (f == 2) = false := by simpa using hf2
  clear hf2
  have HFR := Lib.hid hfree
  clear hfree
  go_enter Try.func59, Try.ntmps59
  go_wp2_with fail
  refine (Fits_ H.out (by decide) A l.length c).mono ?_
  rintro e w1 ⟨rfl, n, rfl⟩
  rw [decide_eq_true hsz]
  obtain ⟨c1, c2, g0, g1, g2, g3, g4, g5, gf, hc1, hc2⟩ := H.out.cells
  obtain ⟨vs, hv, hr, hkv⟩ := H.out.row
  have hlen := H.out.len
  have HV := Lib.hid hv; have HR := Lib.hid hr; have HKV := Lib.hid hkv
  clear g1 g2 g4 g5 gf hc1 hc2 hv hr hkv
  go_wp2_with fail
  refine (Same_ (H.out.drewN n) (by decide) A c l (Kd.C_drewN HC.out n) hl HLB.out).mono ?_
  rintro e w2 ⟨rfl, rfl⟩
  have HT := Lib.hid (same_slot l ks)
  obtain hr1 : sameAt l ks 0 = -1 := by rcases HT.out with h | ⟨i, h, _⟩ <;> omega
  rw [hr1]
  clear hs hr1 HT
  go_wp2
  go_loop [9, 11] (fun v i => ∃ (k : Nat) (x : Int), k ≤ ks.length ∧ i = .int .i64 x ∧ Hid (x = (k : Int) - 1) ∧ v = .int .i64 (freeAt (ks.drop k) k)) (fun _ i => (intOf i + 1).toNat)
  case atStart => exact ⟨ks.length, _, Nat.le_refl _, rfl, Lib.hid rfl, by rw [List.drop_eq_nil_of_le (Nat.le_refl _)]; rfl⟩
  case round =>
    obtain ⟨k, x, hk, rfl, HX, rfl⟩ := hrel
    cases k with
    | zero =>
      obtain rfl : x = -1 := by have := HX.out; omega
      rw [List.drop_zero]
      have hfr := HFR.out
      generalize freeAt ks 0 = r at *
      go_wp2
      go_ret3
      exact ⟨rfl, ⟨_, rfl⟩⟩
    | succ j =>
      obtain rfl : x = (j : Int) := by have := HX.out; omega
      have hcell := HR.out.cell j (by rw [HV.out]; omega)
      generalize hvk : vs[j]'(by rw [HV.out]; omega) = v at hcell
      have hvs : vs[j]? = some v := by rw [List.getElem?_eq_getElem (by rw [HV.out]; omega), hvk]
      cases hkk : ks[j]'(by omega) with
      | none =>
        have hks : ks[j]? = some none := by rw [List.getElem?_eq_getElem (by omega), hkk]
        obtain rfl : v = .slice none 0 0 := HKV.out j v none hvs hks
        have hq := fun W => run_eql_slice_nil_any (P := Try.prog) W 32 5 none 0 0 0 0 Try.underlying32
        have HS2 := Lib.hid (free_none hks)
        generalize freeAt (ks.drop (j + 1)) (j + 1) = r
        clear hvk hvs hkk hks HX
        go_wp2
        go_round
        case rel => exact ⟨j, _, by omega, rfl, Lib.hid rfl, by rw [HS2.out]⟩
        case measure => simp [intOf] <;> omega
      | some l' =>
        have hks : ks[j]? = some (some l') := by rw [List.getElem?_eq_getElem (by omega), hkk]
        obtain ⟨b, cb, rfl, hb1, hbF, hrow⟩ := HKV.out j v (some l') hvs hks
        have hq := fun W => run_eql_slice_nil_any (P := Try.prog) W 32 5 (some ⟨b, 0, none⟩) l'.length cb 0 0 Try.underlying32
        have HS2 := Lib.hid (free_some hks)
        generalize hrr : freeAt (ks.drop (j + 1)) (j + 1) = r at *
        clear hvk hvs hkk hks HX hrow hbF hb1 hrr
        go_wp2
        go_round
        case rel => exact ⟨j, _, by omega, rfl, Lib.hid rfl, by rw [HS2.out]⟩
        case measure => simp [intOf] <;> omega
/-- A new key, where there is room. -/
theorem Put_new (h : RIx w F g gs gw kd sz mx ck ks wn) (hkd : kd = 1 ∨ kd = 2) (hck : ck < 4611686018427387904) (A : Option Addr) (c : Nat) (l : List Int) (f : Int) (hC : Kd.C (Kd.int .u8) w A l.length l) (hl : l.length ≤ c) (hsz : (l.length : Int) = sz) (hlb : ∀ x ∈ l, 0 ≤ x ∧ x ≤ 255) (hf : ¬ f > 2) (hs : sameAt l ks 0 < 0) (hf2 : f ≠ 2) (i : Nat) (hfree : freeAt ks 0 = (i : Int)) (hi : i < ks.length) :
    Calls Try.prog 59 #[.pointer (some ⟨g, 0, none⟩), .slice A l.length c, .int .u64 f] w fun e w' => e = .returned (.tuple #[.int .i64 (i : Int), .bool true, .int .i64 0]) ∧ ∃ F', RIx w' F' g gs gw kd sz mx (ck + 1) (ks.set i (some l)) (touched wn (i : Int) (ck + 1)) ∧ Step w w' F F' := by
  have H := Lib.hid h
  have HC := Lib.hid hC; have HLB := Lib.hid hlb
  have HSZ := Lib.hid hsz
  have HL16 : Hid (0 < l.length ∧ l.length ≤ 16) := Lib.hid (by have := h.szs; omega)
  have hne := h.ne.1
  have hkd3 : kd ≠ 3 := by omega
  have bk0 : (kd == 0) = false := by simp; omega
  have bk3 : (kd == 3) = false := by simp; omega
  have HK := Lib.hid hkd
  clear h hC hlb hkd
  have bf : (f == 2) = false := by simpa using hf2
  clear hf2
  have HFR := Lib.hid hfree
  have HI := Lib.hid hi
  clear hfree hi
  go_enter Try.func59, Try.ntmps59
  go_wp2_with fail
  refine (Fits_ H.out hkd3 A l.length c).mono ?_
  rintro e w1 ⟨rfl, n, rfl⟩
  rw [decide_eq_true hsz]
  obtain ⟨c1, c2, g0, g1, g2, g3, g4, g5, gf, hc1, hc2⟩ := H.out.cells
  obtain ⟨vs, hv, hr, hkv⟩ := H.out.row
  have hlen := H.out.len
  have HV := Lib.hid hv; have HR := Lib.hid hr; have HKV := Lib.hid hkv
  clear g1 g2 g4 g5 gf hc1 hc2 hv hr hkv hsz
  go_wp2_with fail
  refine (Same_ (H.out.drewN n) hkd3 A c l (Kd.C_drewN HC.out n) hl HLB.out).mono ?_
  rintro e w2 ⟨rfl, rfl⟩
  have HT := Lib.hid (same_slot l ks)
  obtain hr1 : sameAt l ks 0 = -1 := by rcases HT.out with h | ⟨i, h, _⟩ <;> omega
  rw [hr1]
  clear hs hr1 HT
  go_wp2
  go_loop [9, 11] (fun v i => ∃ (k : Nat) (x : Int), k ≤ ks.length ∧ i = .int .i64 x ∧ Hid (x = (k : Int) - 1) ∧ v = .int .i64 (freeAt (ks.drop k) k)) (fun _ i => (intOf i + 1).toNat)
  case atStart => exact ⟨ks.length, _, Nat.le_refl _, rfl, Lib.hid rfl, by rw [List.drop_eq_nil_of_le (Nat.le_refl _)]; rfl⟩
  case round =>
    obtain ⟨k, x, hk, rfl, HX, rfl⟩ := hrel
    cases k with
    | zero =>
      obtain rfl : x = -1 := by have := HX.out; omega
      rw [List.drop_zero, HFR.out]
      have hi := HI.out
      have hst := HR.out.cell i (by rw [HV.out]; exact hi)
      generalize vs[i]'(by rw [HV.out]; exact hi) = u at hst
      have hsf := HR.out.frozen i
      have ga3 : ∀ m, ((w.drewN m).alloc (Obj.cells #[] 5)).cell? ⟨g, 3, none⟩ = some (.slice (some ⟨gs, 0, none⟩) ks.length c1) := fun m => old (below_alloc (pw_below_drewN (Below.refl w.heap.size w) m) _) g3
      clear HX hk
      go_wp2
      go_region_law (first
        | (refine Kd.R_append_rows_step (Kd.int .u8) (w0 := w) w.heap.size (by rfl) (.tmp 106) (.tmp 107) 32 5 (.int .u8 0) 1 rfl Try.underlying32 info5 rfl (by decide) (by omega) _ ([] : List Int) l _ _ _ (fun _ => True) (fun _ => False) rfl rfl ?aO ?aC (fun _ _ h => h) (fun _ h => h.elim) (fun _ _ => trivial) ?aB ?aS ?aL ?_
           (case aO => exact emptyR (heap_alloc_new _ _) (Nat.le_refl _))
           (case aC => exact Kd.C_alloc (Kd.C_drewN HC.out _) _)
           (case aB => exact below_alloc (pw_below_drewN (Below.refl _ _) _) _)
           (case aS => simp)
           (case aL => have := HL16.out; simp; omega)
           intro v1 w7 ho hb hg hat
           obtain ⟨b7, c7, rfl, k1, k2, _, k3⟩ := keyR ho HL16.out.1
           have g3' := old hb g3
           have hst' := old hb hst
           have hsf' := oldf hb HR.out i
           have HB7 := Lib.hid hb; have HK7 := Lib.hid (And.intro k1 (And.intro k2 k3))
           clear ho hb hg hat k1 k2 k3)
        | fail)
      all_goals
        have hinF := H.out.inF
        have h7 := (H.out.below HB7.out).mono (F' := fun b => F b ∨ b = b7) (fun b hb => .inl hb) (fun b hb => hb.elim (fun hb => Nat.lt_of_lt_of_le (H.out.lt b hb) HB7.out.size) (fun e => e ▸ HK7.out.2.2.lt))
        have HR8 := Lib.hid (h7.key i HI.out (.slice (some ⟨b7, 0, none⟩) l.length c7) (some l) ⟨b7, c7, rfl, HK7.out.1, .inr rfl, HK7.out.2.2⟩ (fun l' e => by cases e; exact ⟨HSZ.out, HLB.out⟩))
        have HS8 : Hid (Step w (w7.setCell ⟨gs, i, none⟩ (.slice (some ⟨b7, 0, none⟩) l.length c7)) F (fun b => F b ∨ b = b7)) := Lib.hid ((((Step.of_below HB7.out F).setCell (p := ⟨gs, i, none⟩) (.inl hinF.2.1) (.slice (some ⟨b7, 0, none⟩) l.length c7))).to (fun b hb => hb.imp id (fun e => by subst e; exact HK7.out.2.1)))
        have g0' := old HB7.out g0
        clear ga3 hinF h7 hst hsf hst' hsf' g3 g3'
        go_wp2_with fail
        refine (touch_ HR8.out hck (i : Int) (.inr ⟨i, rfl, by rw [List.length_set]; exact HI.out⟩)).mono ?_
        rintro e w9 ⟨rfl, hR, hO⟩
        have HR9 := Lib.hid hR; have HS9 := Lib.hid (HS8.out.trans hO)
        clear hR hO g0'
        go_wp2
        go_ret3
        exact ⟨rfl, _, HR9.out, HS9.out⟩
    | succ j =>
      obtain rfl : x = (j : Int) := by have := HX.out; omega
      have hcell := HR.out.cell j (by rw [HV.out]; omega)
      generalize hvk : vs[j]'(by rw [HV.out]; omega) = v at hcell
      have hvs : vs[j]? = some v := by rw [List.getElem?_eq_getElem (by rw [HV.out]; omega), hvk]
      cases hkk : ks[j]'(by omega) with
      | none =>
        have hks : ks[j]? = some none := by rw [List.getElem?_eq_getElem (by omega), hkk]
        obtain rfl : v = .slice none 0 0 := HKV.out j v none hvs hks
        have hq := fun W => run_eql_slice_nil_any (P := Try.prog) W 32 5 none 0 0 0 0 Try.underlying32
        have HS2 := Lib.hid (free_none hks)
        generalize freeAt (ks.drop (j + 1)) (j + 1) = r
        clear hvk hvs hkk hks HX
        go_wp2
        go_round
        case rel => exact ⟨j, _, by omega, rfl, Lib.hid rfl, by rw [HS2.out]⟩
        case measure => simp [intOf] <;> omega
      | some l' =>
        have hks : ks[j]? = some (some l') := by rw [List.getElem?_eq_getElem (by omega), hkk]
        obtain ⟨b, cb, rfl, hb1, hbF, hrow⟩ := HKV.out j v (some l') hvs hks
        have hq := fun W => run_eql_slice_nil_any (P := Try.prog) W 32 5 (some ⟨b, 0, none⟩) l'.length cb 0 0 Try.underlying32
        have HS2 := Lib.hid (free_some hks)
        generalize hrr : freeAt (ks.drop (j + 1)) (j + 1) = r at *
        clear hvk hvs hkk hks HX hrow hbF hb1 hrr
        go_wp2
        go_round
        case rel => exact ⟨j, _, by omega, rfl, Lib.hid rfl, by rw [HS2.out]⟩
        case measure => simp [intOf] <;> omega
/-- A new key in the place of the one touched longest ago. -/
theorem Put_lru (h : RIx w F g gs gw kd sz mx ck ks wn) (hkd : kd = 2) (hck : ck < 4611686018427387904) (A : Option Addr) (c : Nat) (l : List Int) (f : Int) (hC : Kd.C (Kd.int .u8) w A l.length l) (hl : l.length ≤ c) (hsz : (l.length : Int) = sz) (hlb : ∀ x ∈ l, 0 ≤ x ∧ x ≤ 255) (hf : ¬ f > 2) (hs : sameAt l ks 0 < 0) (hf2 : f ≠ 2) (hfree : freeAt ks 0 < 0) (i : Nat) (hi0 : oldest wn ks.length = i) :
    Calls Try.prog 59 #[.pointer (some ⟨g, 0, none⟩), .slice A l.length c, .int .u64 f] w fun e w' => e = .returned (.tuple #[.int .i64 (i : Int), .bool true, .int .i64 0]) ∧ ∃ F', RIx w' F' g gs gw kd sz mx (ck + 1) (ks.set i (some l)) (touched wn (i : Int) (ck + 1)) ∧ Step w w' F F' := by
  have H := Lib.hid h
  have h0len := h.len.1
  have HC := Lib.hid hC; have HLB := Lib.hid hlb
  have HSZ := Lib.hid hsz
  have HL16 : Hid (0 < l.length ∧ l.length ≤ 16) := Lib.hid (by have := h.szs; omega)
  have hne := h.ne.1
  have hkd3 : kd ≠ 3 := by omega
  have bk0 : (kd == 0) = false := by simp; omega
  have bk3 : (kd == 3) = false := by simp; omega
  have bk2 : (kd != 2) = false := by simp; omega
  have HK := Lib.hid hkd
  clear h hC hlb hkd
  have bf : (f == 2) = false := by simpa using hf2
  clear hf2
  have HFR := Lib.hid hfree
  have HI : Hid (i < ks.length) := Lib.hid (hi0 ▸ oldest_lt wn _ _ (Nat.le_refl _) h0len)
  have HI0 := Lib.hid hi0
  clear hfree hi0 h0len
  go_enter Try.func59, Try.ntmps59
  go_wp2_with fail
  refine (Fits_ H.out hkd3 A l.length c).mono ?_
  rintro e w1 ⟨rfl, n, rfl⟩
  rw [decide_eq_true hsz]
  obtain ⟨c1, c2, g0, g1, g2, g3, g4, g5, gf, hc1, hc2⟩ := H.out.cells
  obtain ⟨vs, hv, hr, hkv⟩ := H.out.row
  have hlen := H.out.len
  have HV := Lib.hid hv; have HR := Lib.hid hr; have HKV := Lib.hid hkv
  clear g1 g2 g4 g5 gf hc1 hc2 hv hr hkv hsz
  go_wp2_with fail
  refine (Same_ (H.out.drewN n) hkd3 A c l (Kd.C_drewN HC.out n) hl HLB.out).mono ?_
  rintro e w2 ⟨rfl, rfl⟩
  have HT := Lib.hid (same_slot l ks)
  obtain hr1 : sameAt l ks 0 = -1 := by rcases HT.out with h | ⟨i, h, _⟩ <;> omega
  rw [hr1]
  clear hs hr1 HT
  go_wp2
  go_loop [9, 11] (fun v i => ∃ (k : Nat) (x : Int), k ≤ ks.length ∧ i = .int .i64 x ∧ Hid (x = (k : Int) - 1) ∧ v = .int .i64 (freeAt (ks.drop k) k)) (fun _ i => (intOf i + 1).toNat)
  case atStart => exact ⟨ks.length, _, Nat.le_refl _, rfl, Lib.hid rfl, by rw [List.drop_eq_nil_of_le (Nat.le_refl _)]; rfl⟩
  case round =>
    obtain ⟨k, x, hk, rfl, HX, rfl⟩ := hrel
    cases k with
    | zero =>
      obtain rfl : x = -1 := by have := HX.out; omega
      rw [List.drop_zero]
      have hfr := HFR.out
      obtain ⟨c1', c2', t0, t1, t2, t3, g4, t5, tf, hd1, hd2⟩ := H.out.cells
      have HWN : Hid (∀ i, i < ks.length → w.cell? ⟨gw, i, none⟩ = some (.int .i64 (wn.getD i 0))) := Lib.hid (fun i hi => RIx.tcell H.out i hi)
      generalize freeAt ks 0 = r at *
      clear t0 t1 t2 t3 t5 tf hd1 hd2 HX hk
      go_wp2
      clear hfr
      go_loopw [9, 81] (fun v i wr => ∃ k : Nat, k ≤ ks.length ∧ i = .int .i64 (k : Int) ∧ v = .int .i64 ((oldest wn k : Nat) : Int) ∧ Hid (∃ q, wr = w.drewN q)) (fun _ i _ => ks.length - (intOf i).toNat)
      case atStart => exact ⟨0, Nat.zero_le _, rfl, rfl, Lib.hid ⟨_, rfl⟩⟩
      case round =>
        obtain ⟨k, hk, rfl, rfl, HQ⟩ := hrel
        obtain ⟨q, rfl⟩ := HQ.out
        by_cases hlt : k < ks.length
        · have ta := HWN.out k hlt
          have hol := oldest_lt wn k ks.length (by omega) (by omega)
          have tb := HWN.out _ hol
          have HO : Hid (oldest wn (k + 1) = if wn.getD k 0 < wn.getD (oldest wn k) 0 then k else oldest wn k) := Lib.hid rfl
          generalize oldest wn k = m at *
          have hm1 : (m : Int) < (ks.length : Int) := by omega
          have hk1 : (k : Int) < (ks.length : Int) := by omega
          generalize wn.getD k 0 = xa at *
          generalize wn.getD m 0 = xb at *
          by_cases hx : xa < xb
          · have hO2 : Hid (oldest wn (k + 1) = k) := Lib.hid (by rw [HO.out, if_pos hx])
            clear HO HQ
            go_wp2
            go_quiet (fail)
            go_wp2
            go_roundw
            case rel => exact ⟨k + 1, by omega, by go_num, by rw [hO2.out], Lib.hid ⟨_, rfl⟩⟩
            case measure => simp [intOf] <;> omega
          · have hO2 : Hid (oldest wn (k + 1) = m) := Lib.hid (by rw [HO.out, if_neg hx])
            clear HO HQ
            go_wp2
            go_quiet (fail)
            go_wp2
            go_roundw
            case rel => exact ⟨k + 1, by omega, by go_num, by rw [hO2.out], Lib.hid ⟨_, rfl⟩⟩
            case measure => simp [intOf] <;> omega
        · obtain rfl : k = ks.length := by omega
          rw [HI0.out]
          have hi := HI.out
          have hst := HR.out.cell i (by rw [HV.out]; exact hi)
          generalize vs[i]'(by rw [HV.out]; exact hi) = u at hst
          have hsf := HR.out.frozen i
          have ga3 : ∀ m, ((w.drewN m).alloc (Obj.cells #[] 5)).cell? ⟨g, 3, none⟩ = some (.slice (some ⟨gs, 0, none⟩) ks.length c1) := fun m => old (below_alloc (pw_below_drewN (Below.refl w.heap.size w) m) _) g3
          clear HQ hlt hk g4
          go_wp2
          go_region_law (first
            | (refine Kd.R_append_rows_step (Kd.int .u8) (w0 := w) w.heap.size (by rfl) (.tmp 106) (.tmp 107) 32 5 (.int .u8 0) 1 rfl Try.underlying32 info5 rfl (by decide) (by omega) _ ([] : List Int) l _ _ _ (fun _ => True) (fun _ => False) rfl rfl ?aO ?aC (fun _ _ h => h) (fun _ h => h.elim) (fun _ _ => trivial) ?aB ?aS ?aL ?_
               (case aO => exact emptyR (heap_alloc_new _ _) (Nat.le_refl _))
               (case aC => exact Kd.C_alloc (Kd.C_drewN HC.out _) _)
               (case aB => exact below_alloc (pw_below_drewN (Below.refl _ _) _) _)
               (case aS => simp)
               (case aL => have := HL16.out; simp; omega)
               intro v1 w7 ho hb hg hat
               obtain ⟨b7, c7, rfl, k1, k2, _, k3⟩ := keyR ho HL16.out.1
               have g3' := old hb g3
               have hst' := old hb hst
               have hsf' := oldf hb HR.out i
               have HB7 := Lib.hid hb; have HK7 := Lib.hid (And.intro k1 (And.intro k2 k3))
               clear ho hb hg hat k1 k2 k3)
            | fail)
          all_goals
            have hinF := H.out.inF
            have h7 := (H.out.below HB7.out).mono (F' := fun b => F b ∨ b = b7) (fun b hb => .inl hb) (fun b hb => hb.elim (fun hb => Nat.lt_of_lt_of_le (H.out.lt b hb) HB7.out.size) (fun e => e ▸ HK7.out.2.2.lt))
            have HR8 := Lib.hid (h7.key i HI.out (.slice (some ⟨b7, 0, none⟩) l.length c7) (some l) ⟨b7, c7, rfl, HK7.out.1, .inr rfl, HK7.out.2.2⟩ (fun l' e => by cases e; exact ⟨HSZ.out, HLB.out⟩))
            have HS8 : Hid (Step w (w7.setCell ⟨gs, i, none⟩ (.slice (some ⟨b7, 0, none⟩) l.length c7)) F (fun b => F b ∨ b = b7)) := Lib.hid ((((Step.of_below HB7.out F).setCell (p := ⟨gs, i, none⟩) (.inl hinF.2.1) (.slice (some ⟨b7, 0, none⟩) l.length c7))).to (fun b hb => hb.imp id (fun e => by subst e; exact HK7.out.2.1)))
            have g0' := old HB7.out g0
            clear ga3 hinF h7 hst hsf hst' hsf' g3 g3'
            go_wp2_with fail
            refine (touch_ HR8.out hck (i : Int) (.inr ⟨i, rfl, by rw [List.length_set]; exact HI.out⟩)).mono ?_
            rintro e w9 ⟨rfl, hR, hO⟩
            have HR9 := Lib.hid hR; have HS9 := Lib.hid (HS8.out.trans hO)
            clear hR hO g0'
            go_wp2
            go_ret3
            exact ⟨rfl, _, HR9.out, HS9.out⟩
    | succ j =>
      obtain rfl : x = (j : Int) := by have := HX.out; omega
      have hcell := HR.out.cell j (by rw [HV.out]; omega)
      generalize hvk : vs[j]'(by rw [HV.out]; omega) = v at hcell
      have hvs : vs[j]? = some v := by rw [List.getElem?_eq_getElem (by rw [HV.out]; omega), hvk]
      cases hkk : ks[j]'(by omega) with
      | none =>
        have hks : ks[j]? = some none := by rw [List.getElem?_eq_getElem (by omega), hkk]
        obtain rfl : v = .slice none 0 0 := HKV.out j v none hvs hks
        have hq := fun W => run_eql_slice_nil_any (P := Try.prog) W 32 5 none 0 0 0 0 Try.underlying32
        have HS2 := Lib.hid (free_none hks)
        generalize freeAt (ks.drop (j + 1)) (j + 1) = r
        clear hvk hvs hkk hks HX
        go_wp2
        go_round
        case rel => exact ⟨j, _, by omega, rfl, Lib.hid rfl, by rw [HS2.out]⟩
        case measure => simp [intOf] <;> omega
      | some l' =>
        have hks : ks[j]? = some (some l') := by rw [List.getElem?_eq_getElem (by omega), hkk]
        obtain ⟨b, cb, rfl, hb1, hbF, hrow⟩ := HKV.out j v (some l') hvs hks
        have hq := fun W => run_eql_slice_nil_any (P := Try.prog) W 32 5 (some ⟨b, 0, none⟩) l'.length cb 0 0 Try.underlying32
        have HS2 := Lib.hid (free_some hks)
        generalize hrr : freeAt (ks.drop (j + 1)) (j + 1) = r at *
        clear hvk hvs hkk hks HX hrow hbF hb1 hrr
        go_wp2
        go_round
        case rel => exact ⟨j, _, by omega, rfl, Lib.hid rfl, by rw [HS2.out]⟩
        case measure => simp [intOf] <;> omega
end
end Go.Proofs.Ytfbajampfiodeaa.RxPut
