/- The document's index (posternref06.Index): Copy, of all kinds, walked by hand. -/
import Derived.Test.YtfbajampfiodeaaRxMore
namespace Go.Proofs.Ytfbajampfiodeaa.RxCopy
open Go.RowKit Go.Proofs.Ytfbajampfiodeaa.PArrayPlays Go.Proofs.YtfbajampfiodeaaW.PrintWords Go.Proofs.YtfbajampfiodeaaW.PrintLast Go.Proofs.YtfbajampfiodeaaW.PrintMore Go.Proofs.Ytfbajampfiodeaa.Mw Go.Proofs.Ytfbajampfiodeaa.Rx Go.Proofs.Ytfbajampfiodeaa.RxOps Go.Proofs.Ytfbajampfiodeaa.RxPut Go.Proofs.Ytfbajampfiodeaa.RxNew Go.Proofs.Ytfbajampfiodeaa.RxMore
set_option linter.unusedVariables false
section
variable {w0 w w1 : World} {go : Nat} {kd sz mx ck : Int} {V3 V4 : Value} {hs : List Value} {ks : List (Option (List Int))} {ws : List Int}
theorem Part.far4 (h : Part w0 w go kd sz mx ck V3 V4 hs ks ws) (hg : w.grownBy w1 V4.ownBlock) : w1.cell? ⟨go, 3, none⟩ = some V3 ∧ w1.cell? ⟨go, 4, none⟩ = some V4 ∧ w1.frozen? ⟨go, 4, none⟩ = false := by
  obtain ⟨i4, ho4⟩ := Kd.R_own h.rw_
  have b1 := (hg.block go (blk_lt h.blk) (fun e => by obtain ⟨cs', hc'⟩ := own_typed ho4 go e.symm; exact blk_ne h.blk hc' (by decide) rfl)).trans h.blk
  exact ⟨(blk_cell b1 3).trans rfl, (blk_cell b1 4).trans rfl, blk_frozen b1 4⟩
theorem Part.far3 (h : Part w0 w go kd sz mx ck V3 V4 hs ks ws) (hg : w.grownBy w1 V3.ownBlock) : w1.cell? ⟨go, 3, none⟩ = some V3 ∧ w1.frozen? ⟨go, 3, none⟩ = false := by
  obtain ⟨i3, ho3⟩ := Kd.R_own h.rs
  have b1 := (hg.block go (blk_lt h.blk) (fun e => by obtain ⟨cs', hc'⟩ := own_typed ho3 go e.symm; exact blk_ne h.blk hc' (by decide) rfl)).trans h.blk
  exact ⟨(blk_cell b1 3).trans rfl, blk_frozen b1 3⟩
end
theorem take_at {α : Type} {l : List α} {k : Nat} {x : α} (h : l[k]? = some x) : l.take k ++ [x] = l.take (k + 1) := by rw [List.take_add_one, h]; rfl
set_option maxHeartbeats 2000000 in
theorem Copy_ {w : World} {F : Nat → Prop} {g gs gw : Nat} {kd sz mx ck : Int} {ks : List (Option (List Int))} {wn : List Int} (h : RIx w F g gs gw kd sz mx ck ks wn) :
    Calls Try.prog 27 #[.pointer (some ⟨g, 0, none⟩)] w fun e w' => ∃ F' g' gs' gw', e = .returned (.pointer (some ⟨g', 0, none⟩)) ∧ RIx w' F' g' gs' gw' kd sz mx ck ks wn ∧ (∀ b, F' b → w.heap.size ≤ b) ∧ Below w.heap.size w w' := by
  obtain ⟨c1, c2, g0, g1, g2, g3, g4, g5, gf, hc1, hc2⟩ := h.cells
  have hlen := h.len.2
  obtain ⟨vs, hv, hr, hkv⟩ := h.row
  have HX := Lib.hid h
  have HV := Lib.hid hv; have HR := Lib.hid hr; have HKV := Lib.hid hkv
  have a3 : ∀ o, (w.alloc o).cell? ⟨g, 3, none⟩ = some (.slice (some ⟨gs, 0, none⟩) ks.length c1) := fun o => old (below_alloc (Below.refl w.heap.size w) o) g3
  clear gf h hv hr hkv
  go_enter Try.func27, Try.ntmps27
  go_wp2
  go_region
  have HP : Hid (∃ V3 V4 hs, Part w (w.alloc (.cells #[.int .i64 kd, .int .i64 sz, .int .i64 mx, .slice none 0 0, .slice none 0 0, .int .i64 ck] 91)).drew w.heap.size kd sz mx ck V3 V4 hs (ks.take 0) (wn.take 0)) := Lib.hid ⟨.slice none 0 0, .slice none 0 0, [], ⟨heap_alloc_new w _, Nat.le_refl _, Kd.R_nil _ _ _ _ _, Kd.R_nil _ _ _ _ _, rfl, fun i v k e => by simp at e, (below_alloc (Below.refl _ _) _).drew⟩⟩
  go_wp2
  clear a3
  go_loopw [29] (fun i wr => ∃ k : Nat, k ≤ ks.length ∧ i = .int .i64 (k : Int) ∧ Hid (∃ V3 V4 hs, Part w wr w.heap.size kd sz mx ck V3 V4 hs (ks.take k) (wn.take k))) (fun i _ => ks.length - (intOf i).toNat)
  case atStart => exact ⟨0, Nat.zero_le _, rfl, HP⟩
  case round =>
    clear HP
    obtain ⟨k, hk, rfl, HP⟩ := hrel
    by_cases hlt : k < ks.length
    · obtain ⟨V3, V4, hs, hP⟩ := HP.out
      have HP1 := Lib.hid hP
      have hcell := old hP.bel (HR.out.cell k (by rw [HV.out]; exact hlt))
      generalize hvk : vs[k]'(by rw [HV.out]; exact hlt) = v at hcell
      have hvs : vs[k]? = some v := by rw [List.getElem?_eq_getElem (by rw [HV.out]; exact hlt), hvk]
      have ht := old hP.bel (RIx.tcell HX.out k hlt)
      have hwt : wn[k]? = some (wn.getD k 0) := by rw [List.getD_eq_getElem?_getD, List.getElem?_eq_getElem (by rw [HX.out.wlen]; exact hlt)]; rfl
      have HW2 := Lib.hid (take_at hwt)
      generalize wn.getD k 0 = x at *
      have x4 := old hP.bel g4
      obtain ⟨p3, p4, pf⟩ := hP.cells
      have pf3 := pf 3
      have pf4 := pf 4
      have a4 : ∀ o, (wr.alloc o).cell? ⟨w.heap.size, 4, none⟩ = some V4 := fun o => old (below_alloc (Below.refl wr.heap.size wr) o) p4
      have HWL := Lib.hid (show (wn.take k).length ≤ 64 by rw [List.length_take]; omega)
      clear hP hvk hwt pf HP
      go_wp2
      go_region_law (first
        | (rw [show (wr.alloc (Obj.cells #[.int .i64 x] 3)).drew = wr.drew.alloc (Obj.cells #[.int .i64 x] 3) from rfl]
           refine Kd.R_append_step (Kd.int .i64) (w0 := w) w.heap.size (by rfl) (.tmp 38) (.tmp 46) 89 3 (.int .i64 0) 8 rfl Try.underlying89 info3 rfl (by decide) (by omega) V4 (wn.take k) x [.int .i64 x] (fun _ => True) (fun _ => False) rfl rfl rfl (fun _ h => h.elim) (fun _ _ => trivial) ?aO ?aB ?aS ?aL ?_
           (case aO => exact Kd.R_drew HP1.out.rw_)
           (case aB => exact below_drew HP1.out.bel)
           (case aS => exact HP1.out.bel.size)
           (case aL => have := HWL.out; omega)
           intro v1 w1 ho hb hg hat
           obtain ⟨A1, d1, rfl⟩ := Kd.R_slice ho
           generalize (wn.take k ++ [x]).length = m1 at *
           obtain ⟨q3, q4, qf⟩ := Part.far4 (HP1.out.below (below_drew (Below.refl _ _))) hg
           have HP2 := Lib.hid ((HP1.out.below (below_drew (Below.refl _ _))).when ho hg hb)
           clear ho hb hg hat)
        | fail)
      all_goals
        rw [HW2.out] at HP2
        clear a4 pf3 pf4 p3 p4 q3 q4 qf ht x4 HW2 HWL HP1
        generalize w1.setCell ⟨w.heap.size, 4, none⟩ (.slice A1 m1 d1) = W2 at *
        obtain ⟨p3, p4, pf⟩ := HP2.out.cells
        have pf3 := pf 3
        have hP2 := HP2.out
        have HSL := Lib.hid (show (hs.map fun v => [v]).length ≤ 64 by rw [List.length_map, hP2.klen, List.length_take]; omega)
        clear pf p4 hP2
        cases hkk : ks[k]'hlt with
        | none =>
          have hks : ks[k]? = some none := by rw [List.getElem?_eq_getElem hlt, hkk]
          obtain rfl : v = .slice none 0 0 := HKV.out k v none hvs hks
          have hq := fun W => run_eql_slice_nil_any (P := Try.prog) W 32 5 none 0 0 0 0 Try.underlying32
          have HT := Lib.hid (take_at hks)
          clear hkk hks hvs
          go_wp2_with (first
            | ((with_reducible refine gate_builtin (b := .append) (xs := #[.tmp 56, .tmp 57]) rfl ?_)
               at_builtin
               refine Kd.R_append (Kd.raw 1) (w0 := w) w.heap.size rfl (.tmp 56) (.tmp 57) 38 32 (.slice none 0 0) 24 rfl Try.underlying38 info32 rfl (by decide) (by omega) V3 (hs.map fun v => [v]) [.slice none 0 0] [.slice none 0 0] (fun _ => True) (fun _ => False) rfl rfl ?aP (fun _ h => h.elim) (fun _ _ => trivial) ?aO ?aB ?aS ?aL ?_
               (case aP => exact ⟨rfl, rfl, by simp; rfl⟩)
               (case aO => exact HP2.out.rs)
               (case aB => exact HP2.out.bel)
               (case aS => exact HP2.out.bel.size)
               (case aL => have := HSL.out; omega)
               intro v8 w8 ho hb hg hat
               obtain ⟨A8, d8, rfl⟩ := Kd.R_slice ho
               generalize ((hs.map fun v => [v]) ++ [[Value.slice none 0 0]]).length = m8 at *
               obtain ⟨r3, rf⟩ := Part.far3 HP2.out hg
               have HP3 := Lib.hid (HP2.out.slot (k := none) rfl ho hg hb)
               clear ho hb hg hat)
            | fail)
          rw [HT.out] at HP3
          go_roundw
          case rel => exact ⟨k + 1, by omega, by go_num, Lib.hid ⟨_, _, _, HP3.out⟩⟩
          case measure => simp [intOf]; omega
        | some l =>
          have hks : ks[k]? = some (some l) := by rw [List.getElem?_eq_getElem hlt, hkk]
          obtain ⟨b, cb, rfl, hb1, hbF, hrow⟩ := HKV.out k v (some l) hvs hks
          have hq := fun W => run_eql_slice_nil_any (P := Try.prog) W 32 5 (some ⟨b, 0, none⟩) l.length cb 0 0 Try.underlying32
          have HT := Lib.hid (take_at hks)
          have HL16 : Hid (0 < l.length ∧ l.length ≤ 16) := Lib.hid (by have := (HX.out.kb l (List.mem_of_getElem? hks)).1; have := HX.out.szs; omega)
          have HC := Lib.hid (rowC (hrow.keep (HP2.out.bel.block b hrow.lt)) (by have := HL16.out; omega))
          have a3 : ∀ o, (W2.alloc o).cell? ⟨w.heap.size, 3, none⟩ = some V3 := fun o => old (below_alloc (Below.refl W2.heap.size W2) o) p3
          clear hkk hks hvs hb1 hbF hrow
          go_wp2
          go_region_law (first
            | (rw [show (W2.alloc (Obj.cells #[] 5)).drew = W2.drew.alloc (Obj.cells #[] 5) from rfl]
               refine Kd.R_append_rows_step (Kd.int .u8) (w0 := W2) W2.heap.size (by rfl) (.tmp 66) (.tmp 67) 32 5 (.int .u8 0) 1 rfl Try.underlying32 info5 rfl (by decide) (by omega) _ ([] : List Int) l _ _ _ (fun _ => True) (fun _ => False) rfl rfl ?aO ?aC (fun _ _ h => h) (fun _ h => h.elim) (fun _ _ => trivial) ?aB ?aS ?aL ?_
               (case aO => exact emptyR (heap_alloc_new _ _) (Nat.le_refl _))
               (case aC => exact Kd.C_alloc (Kd.C_drew HC.out) _)
               (case aB => exact below_alloc (below_drew (Below.refl _ _)) _)
               (case aS => simp)
               (case aL => have := HL16.out; simp; omega)
               intro v7 w7 ho hb hg hat
               obtain ⟨b7, c7, rfl, k1, k2, _, k3⟩ := keyR ho HL16.out.1
               have HP7 := Lib.hid (HP2.out.below hb)
               have HK7 : Hid (KeyV w7 (fun b => w.heap.size ≤ b) (.slice (some ⟨b7, 0, none⟩) l.length c7) (some l)) := Lib.hid ⟨b7, c7, rfl, k1, Nat.le_trans HP2.out.bel.size k2, k3⟩
               obtain ⟨s3, s4, sf⟩ := HP7.out.cells
               have sf3 := sf 3
               have t3 : ∀ o, (w7.alloc o).cell? ⟨w.heap.size, 3, none⟩ = some V3 := fun o => old (below_alloc (Below.refl w7.heap.size w7) o) s3
               clear ho hb hg hat k1 k2 k3 s4 sf)
            | (refine Kd.R_append_step (Kd.raw 1) (w0 := w) w.heap.size (by rfl) (.tmp 65) (.tmp 69) 38 32 (.slice none 0 0) 24 rfl Try.underlying38 info32 rfl (by decide) (by omega) V3 (hs.map fun v => [v]) [.slice (some ⟨b7, 0, none⟩) l.length c7] [.slice (some ⟨b7, 0, none⟩) l.length c7] (fun _ => True) (fun _ => False) rfl rfl ?aP (fun _ h => h.elim) (fun _ _ => trivial) ?aO ?aB ?aS ?aL ?_
               (case aP => exact ⟨rfl, rfl, by simp; rfl⟩)
               (case aO => exact HP7.out.rs)
               (case aB => exact HP7.out.bel)
               (case aS => exact HP7.out.bel.size)
               (case aL => have := HSL.out; omega)
               intro v8 w8 ho hb hg hat
               obtain ⟨A8, d8, rfl⟩ := Kd.R_slice ho
               generalize ((hs.map fun v => [v]) ++ [[Value.slice (some ⟨b7, 0, none⟩) l.length c7]]).length = m8 at *
               obtain ⟨r3, rf⟩ := Part.far3 HP7.out hg
               have HP3 := Lib.hid (HP7.out.slot (k := some l) HK7.out ho hg hb)
               clear ho hb hg hat)
            | fail)
          all_goals
            rw [HT.out] at HP3
            clear r3 rf s3 sf3 t3 a3
            go_wp2
            go_roundw
            case rel => exact ⟨k + 1, by omega, by go_num, Lib.hid ⟨_, _, _, HP3.out⟩⟩
            case measure => simp [intOf]; omega
    · obtain rfl : k = ks.length := by omega
      obtain ⟨V3, V4, hs, hP⟩ := HP.out
      rw [List.take_length, show wn.take ks.length = wn by rw [← HX.out.wlen, List.take_length]] at hP
      obtain ⟨F', gs', gw', h1, h2⟩ := hP.done HX.out
      have HB := Lib.hid hP.bel
      have H1 := Lib.hid h1; have H2 := Lib.hid h2
      clear HP hP h1 h2
      go_wp2
      go_ret
      exact ⟨F', _, gs', gw', rfl, H1.out, H2.out, HB.out⟩
end Go.Proofs.Ytfbajampfiodeaa.RxCopy
