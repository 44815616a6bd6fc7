/- hash.Index: Keys, walked by hand. -/
import Derived.Test.YtfbajampfiodeaaFresh
namespace Go.Proofs.Ytfbajampfiodeaa.HashKeys
open Go.RowKit Go.Maps Go.Proofs.Ytfbajampfiodeaa.PArrayPlays Go.Proofs.YtfbajampfiodeaaW.PrintWords Go.Proofs.YtfbajampfiodeaaW.PrintLast Go.Proofs.YtfbajampfiodeaaW.PrintMore Go.Proofs.Ytfbajampfiodeaa.Mw Go.Proofs.Ytfbajampfiodeaa.Rx Go.Proofs.Ytfbajampfiodeaa.RxOps Go.Proofs.Ytfbajampfiodeaa.RxPut Go.Proofs.Ytfbajampfiodeaa.RxNew Go.Proofs.Ytfbajampfiodeaa.RxMore Go.Proofs.Ytfbajampfiodeaa.Hm Go.Proofs.Ytfbajampfiodeaa.Hash Go.Proofs.Ytfbajampfiodeaa.Fresh
set_option linter.unusedVariables false
/-- The bytes of a string are its row. -/
theorem bytes_fresh (W : World) (l : List Int) (hlb : Bs l) (hl : l.length ≤ 100) (B : Nat) (hB : B ≤ W.heap.size) : FreshRow (Lib.bytesWorld W 5 (strOfNums l)) B (.slice (some ⟨W.heap.size, 0, none⟩) (strOfNums l).size (grownCap W (strOfNums l).size 0 5)) l := by
  have hsz : (strOfNums l).size = l.length := by simp [strOfNums, ByteArray.size]
  have hnew := Lib.bytesWorld_at_new W 5 (strOfNums l)
  refine ⟨_, _, _, _, by rw [hsz], ?_, hB, hnew, fun j x hj => ?_⟩
  · exact grownCap_ge W l.length 0 5
  · have hjl : j < l.length := (List.getElem?_eq_some_iff.1 hj).1
    refine ⟨?_, ?_⟩
    · rw [Lib.bytesWorld_cell W 5 _ j (by omega)]
      rw [List.getElem?_eq_getElem hjl] at hj
      cases hj
      have hx := hlb l[j] (List.getElem_mem hjl)
      simp [strOfNums, List.getD_eq_getElem?_getD, List.getElem?_eq_getElem hjl]
      omega
    · have hbc : (strOfNums l).size ≤ (Lib.bytesCells W 5 (strOfNums l)).size := by rw [Lib.bytesCells, Array.size_append, Array.size_map]; exact Nat.le_add_right _ _
      simp only [World.frozen?, hnew]
      rw [Bool.and_eq_false_iff]
      exact .inl (decide_eq_false (by show ¬ (Lib.bytesCells W 5 (strOfNums l)).size ≤ j; omega))
/-- What has been laid of the keys. -/
def ByIs (w : World) (B : Nat) (left : Lit → Bool) (hs : List Value) (ks : List (Option (List Int))) : Prop :=
  hs.length = ks.length ∧ ∀ (i : Nat) (v : Value) (l : List Int), hs[i]? = some v → ks[i]? = some (some l) → left (klit l) = true ∨ FreshRow w B v l
theorem klit_of {x : ByteArray} {l : List Int} (h : Lit.string x.data.toList = klit l) : x = strOfNums l := by
  unfold klit at h
  injection h with h
  have := Array.toList_inj.1 h
  cases x; simp_all
/-- An entry that has come. -/
theorem entry_is {D : DataW Unit} {ks : List (Option (List Int))} (hm : MapIs D ks) {x : ByteArray} {c : Int} {kl : Lit} {y : DataW Unit × List MemPlace} (hk : keyOf Try.prog 9 (.string x) = some kl) (hR : plainElem Try.prog 3 (.int .i64 c) = some y) (hat : ∀ zd, D.atKey kl zd = y.1) :
    ∃ (i : Nat) (l : List Int), ks[i]? = some (some l) ∧ kl = klit l ∧ x = strOfNums l ∧ c = (i : Int) := by
  obtain ⟨s, e, rfl, _⟩ := Go.WideMaps.string_of_keyOf Try.underlying9 hk
  cases e
  obtain ⟨c', ec, rfl, _⟩ := plainElem_int_inv Try.underlying3 hR
  cases ec
  obtain ⟨i, l, h1, h2⟩ := hm.has _ (has_true_of_atKey hat)
  have h3 := (hm.at_ i l h1).2 (.lit (.int .i64 0))
  rw [← h2, hat] at h3
  injection h3 with h3
  injection h3 with _ h3
  exact ⟨i, l, h1, h2, klit_of h2, h3⟩
theorem ByIs.start (w : World) (B m : Nat) (D : DataW Unit) (ks : List (Option (List Int))) (hm : MapIs D ks) (hks : ks.length = m) : ByIs w B (Maps.has D) (List.replicate m (.slice none 0 0)) ks :=
  ⟨by rw [List.length_replicate, hks], fun i v l h1 h2 => .inl (hm.at_ i l h2).1⟩
theorem ByIs.step {w w' : World} {B : Nat} {left : Lit → Bool} {hs : List Value} {ks : List (Option (List Int))} (hb : ∀ l, some l ∈ ks → Bs l) (h : ByIs w B left hs ks) (hk : ∀ v l, FreshRow w B v l → FreshRow w' B v l) {i : Nat} {l : List Int} (hi : ks[i]? = some (some l)) {u : Value} (hu : FreshRow w' B u l) (hin : ∀ j, ks[j]? = some (some l) → j = i) :
    ByIs w' B (fun z => left z && !z.sameKey (klit l)) (hs.set i u) ks := by
  refine ⟨by rw [List.length_set]; exact h.1, fun j v l' h1 h2 => ?_⟩
  by_cases e : i = j
  · subst e
    rw [hi] at h2
    cases h2
    rw [List.getElem?_set_self (by rw [h.1]; exact (List.getElem?_eq_some_iff.1 hi).1)] at h1
    cases h1
    exact .inr hu
  · rw [List.getElem?_set_ne e] at h1
    rcases h.2 j v l' h1 h2 with h3 | h3
    · left
      have hne : klit l' ≠ klit l := fun e2 => by
        have := klit_inj (hb l' (List.mem_of_getElem? h2)) (hb l (List.mem_of_getElem? hi)) e2
        subst this
        exact e (hin j h2).symm
      show (left (klit l') && !(klit l').sameKey (klit l)) = true
      rw [h3, sameKey_ne hne]
      rfl
    · exact .inr (hk v l' h3)
theorem ranges_ne {w : World} {b r n cnt : Nat} {D : DataW Unit} {left : Lit → Bool} (h : w.ranges Try.prog 9 (plainElem Try.prog 3) b r n D left cnt) {k t : Nat} {cs : Array Value} {fr : Nat × Nat} (hk : w.heap[k]? = some (Obj.cells cs t fr)) : k ≠ r ∧ k ≠ b := by
  obtain ⟨es, clock, since, seen, c0, hb, _, _, _, hr, _⟩ := h
  constructor
  · rintro rfl; rw [hk] at hr; cases hr
  · rintro rfl; rw [hk] at hb; cases hb
theorem grownBy_set (W : World) (b i : Nat) (v : Value) : W.grownBy (W.setCell ⟨b, i, none⟩ v) (some b) :=
  ⟨rfl, rfl, rfl, by simp [World.setCell], fun k _ hne => Below.heap_setCell W _ v k (fun e => hne (by rw [e]))⟩
set_option maxHeartbeats 2000000 in
set_option maxRecDepth 100000 in
theorem Keys_ {w : World} {F : Nat → Prop} {g bm gt ct : Nat} {sz : Int} {ks : List (Option (List Int))} (h : HIx w F g bm gt ct sz ks) :
    Calls Try.prog 32 #[.pointer (some ⟨g, 0, none⟩)] w fun e w' => ∃ v, e = .returned v ∧ FreshRows w' w.heap.size v (ks.filterMap id) ∧ Below w.heap.size w w' := by
  obtain ⟨i1, hi1, hz1, hs1, hb1⟩ := info_parts (P := Try.prog) (e := 32) (z := .slice none 0 0) (size := 1) (bytes := 24) (by kernel_rfl)
  obtain ⟨m, hmk⟩ : ∃ m, m = ks.length := ⟨_, rfl⟩
  have hlen := h.ok.len
  rw [← hmk] at hlen
  have hm1 : ∀ W, (Instr.makeSlice 38 (.int .i64 m) (.int .i64 m)).run Try.prog W = .ok (.slice (some ⟨W.heap.size, 0, none⟩) m m) (W.alloc (.cells (madeCells #[.slice none 0 0] m) 32)) := by
    intro W
    have := run_makeSlice (P := Try.prog) W 38 32 i1 (.slice none 0 0) Try.underlying38 hi1 hz1 .i64 .i64 m m (by omega) (by omega) (by rw [hs1]; omega) (by rw [hb1]; omega) (by omega)
    rw [hs1, Int.toNat_natCast, Nat.mul_one] at this
    exact this
  obtain ⟨c1, g0, g1, g2, hc1⟩ := h.cells
  rw [← hmk] at g2 hc1
  obtain ⟨D, hD, hm⟩ := h.map
  have HI := Lib.hid h; have HM := Lib.hid hm; have HD := Lib.hid hD; have HMK := Lib.hid hmk
  have o1 : ∀ o, (w.alloc o).cell? ⟨g, 1, none⟩ = some (.map (some bm)) := fun o => old (below_alloc (Below.refl w.heap.size w) o) g1
  clear hi1 hz1 hs1 hb1 h hD hm hmk g0
  go_enter Try.func32, Try.ntmps32
  go_wp2_with (first
    | (at_range; refine wpList_range_own _ rfl _ 99 rfl 9 3 law Try.underlying99 _ bm ct _ rfl (HD.out.alloc _) ?_; intro w0 hrg0 hg0 hs0)
    | fail)
  go_frame
  have e1 : (w.alloc (.cells (madeCells #[.slice none 0 0] m) 32)).heap.size = w.heap.size + 1 := by simp
  rw [e1] at hrg0 hs0 ⊢
  have HS0 : Hid (∃ left cnt hs, w0.ranges Try.prog 9 (plainElem Try.prog 3) bm (w.heap.size + 1) ct D left cnt ∧ Row w0 w.heap.size 32 hs ∧ ByIs w0 w.heap.size left hs ks ∧ Below w.heap.size w w0) :=
    Lib.hid ⟨_, _, List.replicate m (.slice none 0 0), hrg0, Row.of ((hg0.block w.heap.size (by simp) (by simp)).trans (heap_alloc_new w _)) (by rw [made_rep]), ByIs.start _ _ m D ks HM.out HMK.out.symm, (below_alloc (Below.refl _ _) _).grown hg0 (by simp) (fun j hj => by cases hj)⟩
  clear hrg0 hg0 hs0 e1 o1
  go_loopw [4] (fun _ wr => Hid (∃ left cnt hs, wr.ranges Try.prog 9 (plainElem Try.prog 3) bm (w.heap.size + 1) ct D left cnt ∧ Row wr w.heap.size 32 hs ∧ ByIs wr w.heap.size left hs ks ∧ Below w.heap.size w wr)) (fun _ wr => wr.rangeLeft bm (w.heap.size + 1))
  case atStart => exact HS0
  case round =>
    clear HS0
    have HR0 := Lib.hid hrel
    obtain ⟨left, cnt, hs, hrg, hrow, hby, hbel⟩ := hrel.out
    have HRG := Lib.hid hrg; have HROW := Lib.hid hrow; have HBY := Lib.hid hby; have HBEL := Lib.hid hbel
    clear hrow hby hbel hrel HR0
    go_wp2_with (first
      | (at_next; refine wpList_next_ranges _ rfl _ rfl 9 law (plainElem Try.prog 3) Value.string (Value.int .i64) (fun key kl hk => by obtain ⟨s, e, _⟩ := Go.WideMaps.string_of_keyOf Try.underlying9 hk; exact ⟨s, e⟩) (fun v y hv => by obtain ⟨c, e, _⟩ := plainElem_int_inv Try.underlying3 hv; exact ⟨c, e⟩) bm (w.heap.size + 1) ct D left cnt rfl hrg ?_ ?_)
      | fail)
    · intro _ hl0
      have HL0 := Lib.hid hl0
      have HF0 : Hid (∀ (i : Nat) (v : Value) (l : List Int), hs[i]? = some v → ks[i]? = some (some l) → FreshRow wr w.heap.size v l) := Lib.hid (fun i v l h1 h2 => (HBY.out.2 i v l h1 h2).resolve_left (by rw [hl0]; simp))
      have HHS := Lib.hid HBY.out.1
      have HO0 := Lib.hid (OutIs.start wr w.heap.size)
      clear hrg hl0 HRG HBY
      go_wp2
      have hml : m ≤ m := Nat.le_refl _
      go_loopw [6, 34] (fun v i w2 => ∃ k : Nat, k ≤ m ∧ i = .int .i64 (k : Int) ∧ Hid (OutIs w2 w.heap.size v ((ks.take k).filterMap id)) ∧ Hid (Row w2 w.heap.size 32 hs) ∧ Hid (∀ (i : Nat) (v : Value) (l : List Int), hs[i]? = some v → ks[i]? = some (some l) → FreshRow w2 w.heap.size v l) ∧ Hid (Below w.heap.size w w2)) (fun _ i _ => m - (intOf i).toNat)
      case atStart => exact ⟨0, Nat.zero_le _, rfl, HO0, HROW, HF0, HBEL⟩
      case round =>
        clear HO0 HROW HF0 HBEL
        obtain ⟨k, hk, rfl, HO, HROW, HF, HBEL⟩ := hrel
        by_cases hlt : k < m
        · have hkl : k < ks.length := by rw [← HMK.out]; exact hlt
          have hkh : k < hs.length := by rw [HHS.out]; exact hkl
          have hcell := HROW.out.cell k hkh
          have hvs : hs[k]? = some (hs[k]'hkh) := List.getElem?_eq_getElem hkh
          generalize hs[k]'hkh = v at hcell hvs
          have htk := old HBEL.out (HI.out.tk k hkl)
          have q2 := old HBEL.out g2
          cases hkk : ks[k]'hkl with
          | none =>
            have hks : ks[k]? = some none := by rw [List.getElem?_eq_getElem hkl, hkk]
            rw [hkk] at htk
            have ht2 : wr.cell? ⟨gt, k, none⟩ = some (.bool false) := htk
            have HO2 := HO
            rw [← keys_none hks] at HO2
            clear hkk hks htk hkl hkh hvs HO
            go_wp2
            go_roundw
            case rel => exact ⟨k + 1, by omega, by go_num, HO2, HROW, HF, HBEL⟩
            case measure => simp [intOf]; omega
          | some l =>
            have hks : ks[k]? = some (some l) := by rw [List.getElem?_eq_getElem hkl, hkk]
            rw [hkk] at htk
            have ht2 : wr.cell? ⟨gt, k, none⟩ = some (.bool true) := htk
            have HU := Lib.hid (HF.out k v l hvs hks)
            have HKS := Lib.hid (keys_some hks)
            obtain ⟨out, o1, o2, o3⟩ := HO.out
            have HO1 := Lib.hid o1; have HO2 := Lib.hid o2; have HO3 := Lib.hid o3
            have HOL := Lib.hid (show (out.map fun u => [u]).length ≤ 64 by rw [List.length_map, o2]; have := keys_few ks k; have := HI.out.ok.len; omega)
            obtain ⟨vb, vc, cs, fr, rfl, _⟩ := HU.out
            clear hkk hks htk hkl hkh hvs HO o1 o2 o3
            go_wp2_with (first
              | ((with_reducible refine gate_builtin (b := .append) (xs := #[.tmp 46, .tmp 48]) rfl ?_)
                 at_builtin
                 refine Kd.R_append (Kd.raw 1) (w0 := w) w.heap.size rfl (.tmp 46) (.tmp 48) 38 32 (.slice none 0 0) 24 rfl Try.underlying38 info32 rfl (by decide) (by omega) _ (out.map fun u => [u]) [.slice (some ⟨vb, 0, none⟩) l.length vc] [.slice (some ⟨vb, 0, none⟩) l.length vc] (fun b => w.heap.size < b) (fun _ => False) rfl rfl ?aP (fun _ h => h.elim) ?aF ?aO ?aB ?aS ?aL ?_
                 (case aP => exact ⟨rfl, rfl, by simp; rfl⟩)
                 (case aF => exact fun b hb => Nat.lt_of_lt_of_le HROW.out.lt hb)
                 (case aO => exact HO1.out)
                 (case aB => exact HBEL.out)
                 (case aS => exact HBEL.out.size)
                 (case aL => have := HOL.out; omega)
                 intro v8 w8 ho hb hg hat
                 have HW8 := Lib.hid (And.intro (OutIs.snoc HO1.out HO2.out HO3.out HU.out ho hg) (And.intro hb hg))
                 clear ho hb hg hat)
              | fail)
            have HOO := HW8.out.1
            rw [← HKS.out] at HOO
            have HROW2 := Lib.hid (HROW.out.keep (HW8.out.2.2.block _ HROW.out.lt (fun e => by have := HO1.out.1 _ e.symm; omega)))
            have HF2 : Hid (∀ (i : Nat) (v : Value) (l : List Int), hs[i]? = some v → ks[i]? = some (some l) → FreshRow w8 w.heap.size v l) := Lib.hid (fun i v l h1 h2 => (HF.out i v l h1 h2).grown HO1.out HW8.out.2.2)
            have HB2 := Lib.hid HW8.out.2.1
            have HOO2 := Lib.hid HOO
            clear HOO
            go_roundw
            case rel => exact ⟨k + 1, by omega, by go_num, HOO2, HROW2, HF2, HB2⟩
            case measure => simp [intOf]; omega
        · obtain rfl : k = m := by omega
          have hO := HO.out
          rw [show ks.take k = ks by rw [HMK.out, List.take_length]] at hO
          have HD2 := Lib.hid hO.done
          clear hO
          go_wp2
          go_ret
          exact ⟨_, rfl, HD2.out, HBEL.out⟩
    · intro x c kl y1 y2 w1 cnt1 hkey hlk hRv hat hrg1 hlt hg1 hs1 hen
      obtain ⟨i, l, hi, rfl, rfl, rfl⟩ := entry_is (y := (y1, y2)) HM.out hkey hRv hat
      have HRG1 := Lib.hid hrg1; have HG1 := Lib.hid hg1; have HLT := Lib.hid hlt; have HI0 := Lib.hid hi
      have him : i < m := by rw [HMK.out]; exact (List.getElem?_eq_some_iff.1 hi).1
      have kb := fun W => print_bytes (P := Try.prog) 9 32 5 Try.underlying9 Try.underlying32 Try.underlying5 (strOfNums l) W
      have hbel1 : Below w.heap.size w w1 := HBEL.out.grown hg1 HBEL.out.size (fun j hj => by cases hj; exact Nat.le_succ _)
      have hrow1 : Row w1 w.heap.size 32 hs := HROW.out.keep (hg1.block _ HROW.out.lt (by simp))
      have hb2 : Below w1.heap.size w1 (Lib.bytesWorld w1 5 (strOfNums l)) := bytes_below (Below.refl _ _) (Nat.le_refl _) 5 _
      have hrow2 : Row (Lib.bytesWorld w1 5 (strOfNums l)) w.heap.size 32 hs := hrow1.keep (hb2.block _ hrow1.lt)
      have s0 := hrow2.cell i (by rw [HBY.out.1, ← HMK.out]; exact him)
      generalize hs[i]'(by rw [HBY.out.1, ← HMK.out]; exact him) = u at s0
      have s1 := hrow2.frozen i
      have HB1 := Lib.hid hbel1; have HB2 := Lib.hid hb2; have HR2 := Lib.hid hrow2; have HR1 := Lib.hid hrow1
      clear hrg1 hg1 hs1 hlt hkey hlk hRv hat hi hbel1 hrow1 hb2 hrow2 hrg
      go_wp2
      have hl := HI.out.ok.kb l (List.mem_of_getElem? HI0.out)
      have hsz16 := HI.out.ok.szs
      have hkl : bm < w.heap.size := HD.out.lt
      have hrg2 := HRG1.out.kept (grown_of_below HB2.out none) (by simp) (by simp)
      have hrg3 := hrg2.kept (grownBy_set _ w.heap.size i (.slice (some ⟨w1.heap.size, 0, none⟩) (strOfNums l).size (grownCap w1 (strOfNums l).size 0 5))) (fun e => by have := Option.some.inj e; omega) (fun e => by have := Option.some.inj e; omega)
      have hk3 : ∀ v l', FreshRow w1 w.heap.size v l' → FreshRow ((Lib.bytesWorld w1 5 (strOfNums l)).setCell ⟨w.heap.size, i, none⟩ (.slice (some ⟨w1.heap.size, 0, none⟩) (strOfNums l).size (grownCap w1 (strOfNums l).size 0 5))) w.heap.size v l' := fun v l' hf =>
        (hf.keep fun b cs fr hc _ => HB2.out.block b (blk_lt hc)).keep fun b cs fr hc _ => Below.heap_setCell _ _ _ b (by obtain ⟨r, hr⟩ := HR2.out; exact blk_ne' hc hr (by decide))
      have hnew : FreshRow ((Lib.bytesWorld w1 5 (strOfNums l)).setCell ⟨w.heap.size, i, none⟩ (.slice (some ⟨w1.heap.size, 0, none⟩) (strOfNums l).size (grownCap w1 (strOfNums l).size 0 5))) w.heap.size (.slice (some ⟨w1.heap.size, 0, none⟩) (strOfNums l).size (grownCap w1 (strOfNums l).size 0 5)) l :=
        (bytes_fresh w1 l hl.2 (by omega) w.heap.size HB1.out.size).keep fun b cs fr hc _ => Below.heap_setCell _ _ _ b (by obtain ⟨r, hr⟩ := HR2.out; exact blk_ne' hc hr (by decide))
      have hk1 : ∀ v l', FreshRow wr w.heap.size v l' → FreshRow w1 w.heap.size v l' := fun v l' hf => hf.keep fun b cs fr hc _ => HG1.out.block b (blk_lt hc) (fun e => (ranges_ne HRG.out hc).1 (Option.some.inj e))
      have HALL := Lib.hid (And.intro hrg3 (And.intro (HR2.out.set_ i (by rw [HBY.out.1, ← HMK.out]; exact him) (.slice (some ⟨w1.heap.size, 0, none⟩) (strOfNums l).size (grownCap w1 (strOfNums l).size 0 5))) (And.intro (ByIs.step (fun l hl => (HI.out.ok.kb l hl).2) HBY.out (fun v l' hf => hk3 v l' (hk1 v l' hf)) HI0.out hnew (fun j hj => HM.out.inj hj HI0.out)) ((HB1.out.trans (HB2.out.mono HB1.out.size)).setCell (p := ⟨w.heap.size, i, none⟩) (Nat.le_refl _) (.slice (some ⟨w1.heap.size, 0, none⟩) (strOfNums l).size (grownCap w1 (strOfNums l).size 0 5))))))
      clear hl hsz16 hkl hrg2 hrg3 hk3 hnew hk1 s0 s1 hen
      go_roundw
      case rel => exact Lib.hid ⟨_, cnt1, _, HALL.out⟩
      case measure => rw [HALL.out.1.left_eq, HRG.out.left_eq]; exact HLT.out
end Go.Proofs.Ytfbajampfiodeaa.HashKeys
