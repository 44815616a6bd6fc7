/- The document's index (posternref06.Index): Keys and Copy, of all kinds, walked by hand. -/
import Derived.Test.YtfbajampfiodeaaRxNew
namespace Go.Proofs.Ytfbajampfiodeaa.RxMore
open Go.RowKit Go.Proofs.Ytfbajampfiodeaa.PArrayPlays Go.Proofs.YtfbajampfiodeaaW.PrintWords Go.Proofs.YtfbajampfiodeaaW.PrintLast Go.Proofs.YtfbajampfiodeaaW.PrintMore Go.Proofs.Ytfbajampfiodeaa.Mw Go.Proofs.Ytfbajampfiodeaa.Rx Go.Proofs.Ytfbajampfiodeaa.RxOps Go.Proofs.Ytfbajampfiodeaa.RxPut Go.Proofs.Ytfbajampfiodeaa.RxNew
set_option linter.unusedVariables false
theorem keys_none {ks : List (Option (List Int))} {k : Nat} (h : ks[k]? = some none) : (ks.take (k + 1)).filterMap id = (ks.take k).filterMap id := by
  rw [List.take_add_one, h, List.filterMap_append]
  simp
theorem keys_some {ks : List (Option (List Int))} {k : Nat} {l : List Int} (h : ks[k]? = some (some l)) : (ks.take (k + 1)).filterMap id = (ks.take k).filterMap id ++ [l] := by
  rw [List.take_add_one, h, List.filterMap_append]
  simp
theorem keys_few (ks : List (Option (List Int))) (k : Nat) : ((ks.take k).filterMap id).length ≤ ks.length :=
  Nat.le_trans (List.length_filterMap_le _ _) (by simp; omega)
theorem own_lt {α : Type} {d : Kd α} {e : Nat} {w : World} {B : Nat} {ok : Nat → Prop} {v : Value} {xs : List α} (h : d.R e w B ok v xs) : ∀ k, some k = v.ownBlock → k < w.heap.size := by
  intro k hk
  obtain ⟨inner, ho⟩ := Kd.R_own h
  obtain ⟨c, hc⟩ := own_typed ho k hk.symm
  exact blk_lt hc
set_option maxHeartbeats 2000000 in
theorem Keys_ {w : World} {F : Nat → Prop} {g gs gw : Nat} {kd sz mx ck : Int} {ks : List (Option (List Int))} {wn : List Int} (h : RIx w F g gs gw kd sz mx ck ks wn) :
    Calls Try.prog 22 #[.pointer (some ⟨g, 0, none⟩)] w fun e w' => ∃ v, e = .returned v ∧ Kd.R (Kd.slice 5 (Kd.int .u8)) 32 w' w.heap.size (fun _ => True) v (ks.filterMap id) ∧ Below w.heap.size w w' := by
  obtain ⟨c1, c2, g0, g1, g2, g3, g4, g5, gf, hc1, hc2⟩ := h.cells
  have hlen := h.len.2
  obtain ⟨vs, hv, hr, hkv⟩ := h.row
  have HV := Lib.hid hv; have HR := Lib.hid hr; have HKV := Lib.hid hkv; have HK := Lib.hid (fun l hl => (show 0 < l.length ∧ l.length ≤ 16 by have := (h.kb l hl).1; have := h.szs; omega) : ∀ l, some l ∈ ks → 0 < l.length ∧ l.length ≤ 16)
  have HB0 := Lib.hid (Below.refl w.heap.size w)
  clear gf h g0 g1 g2 g4 g5 hc1 hc2 hv hr hkv
  go_enter Try.func22, Try.ntmps22
  go_wp2
  go_loopw [3, 11] (fun v i wr => ∃ k : Nat, k ≤ ks.length ∧ i = .int .i64 (k : Int) ∧ Hid (Kd.R (Kd.slice 5 (Kd.int .u8)) 32 wr w.heap.size (fun _ => True) v ((ks.take k).filterMap id)) ∧ Hid (Below w.heap.size w wr)) (fun _ i _ => ks.length - (intOf i).toNat)
  case atStart => exact ⟨0, Nat.zero_le _, rfl, Lib.hid (Kd.R_nil _ _ _ _ _), HB0⟩
  case round =>
    obtain ⟨k, hk, rfl, HS, HB⟩ := hrel
    by_cases hlt : k < ks.length
    · have hcell := old HB.out (HR.out.cell k (by rw [HV.out]; exact hlt))
      generalize hvk : vs[k]'(by rw [HV.out]; exact hlt) = v at hcell
      have hvs : vs[k]? = some v := by rw [List.getElem?_eq_getElem (by rw [HV.out]; exact hlt), hvk]
      cases hkk : ks[k]'hlt with
      | none =>
        have hks : ks[k]? = some none := by rw [List.getElem?_eq_getElem hlt, hkk]
        obtain rfl : v = .slice none 0 0 := HKV.out k v none hvs hks
        have hq := fun W => run_neq_slice_nil_any (P := Try.prog) W 32 5 none 0 0 0 0 Try.underlying32
        have HS2 := HS
        rw [← keys_none hks] at HS2
        clear hvk hvs hkk hks HS
        go_wp2
        go_roundw
        case rel => exact ⟨k + 1, by omega, by go_num, HS2, HB⟩
        case measure => simp [intOf]; omega
      | some l =>
        have hks : ks[k]? = some (some l) := by rw [List.getElem?_eq_getElem hlt, hkk]
        obtain ⟨b, cb, rfl, hb1, hbF, hrow⟩ := HKV.out k v (some l) hvs hks
        have hb3 := (HK.out l (List.mem_of_getElem? hks)).1
        have hl100 := Lib.hid (HK.out l (List.mem_of_getElem? hks)).2
        have hq := fun W => run_neq_slice_nil_any (P := Try.prog) W 32 5 (some ⟨b, 0, none⟩) l.length cb 0 0 Try.underlying32
        have HC := Lib.hid (Kd.C_below (rowC hrow (by have := (HK.out l (List.mem_of_getElem? hks)).2; omega)) HB.out)
        have HKS := Lib.hid (keys_some hks)
        have HF := Lib.hid (keys_few ks k)
        have HL := Lib.hid hb3
        have HOL := Lib.hid (own_lt HS.out)
        clear hvk hvs hkk hks hrow hb1 hbF hb3
        go_wp2_with (first
          | ((with_reducible refine gate_dst (N := 18) rfl ?_)
             refine Kd.R_lit (Kd.int .u8) (w0 := wr) wr.heap.size 5 ?hg (N := 18) ?hd (xs := ([] : List Int)) (inner := []) (ok := fun _ => True) (okp := fun _ => True) ?hr ?hp (fun _ hk => hk) trivial (Below.refl _ _) (Nat.le_refl _) (by simp) ?_
             (case hd => rfl); (case hg => rfl); (case hr => first | (go_simp; done) | (go_simp; rfl)); (case hp => exact (Reps.none _ _))
             intro v117 w4 ho5 hb hg_ hnew_; have HO5 := Lib.hid ho5; have HB5 := Lib.hid hb; clear ho5 hb hg_ hnew_)
          | ((with_reducible refine gate_builtin (b := .append) (xs := #[.tmp 18, .tmp 19]) rfl ?_)
             at_builtin
             refine Kd.R_append_rows (Kd.int .u8) (w0 := wr) wr.heap.size rfl (.tmp 18) (.tmp 19) 32 5 (.int .u8 0) 1 rfl Try.underlying32 info5 rfl (by decide) (by omega) v117 ([] : List Int) l _ _ _ (fun _ => True) (fun _ => False) rfl rfl HO5.out (Kd.C_below HC.out HB5.out) (fun _ _ h => h) (fun _ h => h.elim) (fun _ _ => trivial) HB5.out HB5.out.size (by have := hl100.out; simp; omega) ?_
             intro v121 w7 ho hb hg hat; have HO6 := Lib.hid ho; have HB6 := Lib.hid hb; clear ho hb hg hat HO5 HB5; obtain ⟨b7, c7, rfl, hb7, hw7, _⟩ := Kd.R_form HO6.out (by have := HL.out; simpa using this); have HB7 := Lib.hid hb7; clear hb7 hw7)
          | ((with_reducible refine gate_builtin (b := .append) (xs := #[.tmp 17, .tmp 21]) rfl ?_)
             at_builtin
             refine Kd.R_append (Kd.slice 5 (Kd.int .u8)) (w0 := w) w.heap.size rfl (.tmp 17) (.tmp 21) 38 32 (.slice none 0 0) 24 rfl Try.underlying38 info32 rfl (by decide) (by omega) u3 ((ks.take k).filterMap id) l [.slice (some ⟨b7, 0, none⟩) l.length c7] (fun _ => True) (fun k => wr.heap.size ≤ k) rfl rfl ?aP ?aK (fun _ _ => trivial) ?aO ?aB ?aS ?aL ?_
             (case aP => exact Kd.M_row (Kd.R_lower (Kd.R_mono (Kd.R_bound HO6.out) (fun k hk => hk.2.1)) HB.out.size))
             (case aK => exact fun k hk => ⟨trivial, fun e => Nat.not_lt.2 hk (HOL.out k e)⟩)
             (case aO => exact Kd.R_step HS.out (fun k _ hlt => HB6.out.block k hlt))
             (case aB => exact HB.out.trans (HB6.out.mono HB.out.size))
             (case aS => exact Nat.le_trans HB.out.size HB6.out.size)
             (case aL => have := HF.out; omega)
             intro v130 w9 ho hb hg hat; rw [← HKS.out] at ho; have HO9 := Lib.hid ho; have HB9 := Lib.hid hb; clear ho hb hg hat)
          | fail)
        go_roundw
        case rel => exact ⟨k + 1, by omega, by go_num, HO9, HB9⟩
        case measure => simp [intOf]; omega
    · obtain rfl : k = ks.length := by omega
      rw [List.take_length] at HS
      go_wp2
      go_ret
      exact ⟨_, rfl, HS.out, HB.out⟩
/-! ### Copy -/
theorem info3 : (Try.prog.info? 3).map (fun i => (i.zero, i.size, i.bytes)) = some (some (.int .i64 0), 1, 8) := by kernel_rfl
/-- A row of the call's own, one cell an element: its block. -/
theorem ownRow {α : Type} {d : Kd α} {w : World} {B t : Nat} {ok : Nat → Prop} {v : Value} {xs : List α} (f : α → Value) (h1 : d.sz = 1) (hf : ∀ {w B ok x cs}, d.M w B ok x cs → cs = [f x]) (h : Kd.R d t w B ok v xs) (hl : 0 < xs.length) :
    ∃ b c, v = .slice (some ⟨b, 0, none⟩) xs.length c ∧ xs.length ≤ c ∧ B ≤ b ∧ ok b ∧ Row w b t (xs.map f) := by
  obtain ⟨hok, inner, ⟨hlen, h2⟩, hr⟩ := h
  rw [h1] at hlen h2 hr
  rcases h2 with ⟨_, h2⟩ | ⟨g, cap, cur, rfl, hg, hh, hc1, hc2, hc3, hc4⟩
  · omega
  · have hi : inner = xs.map f := by
      refine List.ext_getElem? fun j => ?_
      by_cases hj : j < xs.length
      · have h3 := hf (hr.2 j xs[j] (List.getElem?_eq_getElem hj))
        have h3 : (inner.drop (j * 1)).take 1 = [f xs[j]] := h3
        have h4 : ((inner.drop (j * 1)).take 1)[0]? = some (f xs[j]) := by rw [h3]; rfl
        rw [List.getElem?_take_of_lt (by omega), List.getElem?_drop, Nat.mul_one, Nat.add_zero] at h4
        rw [h4, List.getElem?_map, List.getElem?_eq_getElem hj]
        rfl
      · rw [List.getElem?_eq_none (by omega), List.getElem?_eq_none (by simp; omega)]
    refine ⟨g, cap, rfl, hc1, hg, hok g (by simp [Value.ownBlock]), cur.toList.drop (xs.length * 1), ?_⟩
    rw [hh, ← hi, ← hc4, List.take_append_drop]
/-- A copy in the making. -/
structure Part (w0 w : World) (go : Nat) (kd sz mx ck : Int) (V3 V4 : Value) (hs : List Value) (ks : List (Option (List Int))) (ws : List Int) : Prop where
  blk : w.heap[go]? = some (.cells #[.int .i64 kd, .int .i64 sz, .int .i64 mx, V3, V4, .int .i64 ck] 91 (0, 0))
  lo : w0.heap.size ≤ go
  rw_ : Kd.R (Kd.int .i64) 3 w w0.heap.size (fun _ => True) V4 ws
  rs : Kd.R (Kd.raw 1) 32 w w0.heap.size (fun _ => True) V3 (hs.map fun v => [v])
  klen : hs.length = ks.length
  keys : ∀ (i : Nat) (v : Value) (k : Option (List Int)), hs[i]? = some v → ks[i]? = some k → KeyV w (fun b => w0.heap.size ≤ b) v k
  bel : Below w0.heap.size w0 w
section
variable {w0 w w1 : World} {go : Nat} {kd sz mx ck : Int} {V3 V4 : Value} {hs : List Value} {ks : List (Option (List Int))} {ws : List Int}
theorem Part.cells (h : Part w0 w go kd sz mx ck V3 V4 hs ks ws) : w.cell? ⟨go, 3, none⟩ = some V3 ∧ w.cell? ⟨go, 4, none⟩ = some V4 ∧ ∀ i, w.frozen? ⟨go, i, none⟩ = false :=
  ⟨(blk_cell h.blk 3).trans rfl, (blk_cell h.blk 4).trans rfl, fun i => blk_frozen h.blk i⟩
theorem keyStep {w w1 : World} {F : Nat → Prop} {v : Value} {k : Option (List Int)} (h : KeyV w F v k) (hk : ∀ b : Nat, (∃ cs : Array Value, w.heap[b]? = some (Obj.cells cs 5 (0, 0))) → w1.heap[b]? = w.heap[b]?) : KeyV w1 F v k := h.keep fun b cs hb _ => hk b ⟨cs, hb⟩
theorem Part.below (h : Part w0 w go kd sz mx ck V3 V4 hs ks ws) (hb : Below w.heap.size w w1) : Part w0 w1 go kd sz mx ck V3 V4 hs ks ws :=
  ⟨blk_below h.blk hb, h.lo, Kd.R_below h.rw_ hb, Kd.R_below h.rs hb, h.klen, fun i v k e1 e2 => keyStep (h.keys i v k e1 e2) fun b ⟨cs, hc⟩ => hb.block b (blk_lt hc), h.bel.trans (hb.mono h.bel.size)⟩
/-- A time has been appended, and the slice laid. -/
theorem Part.when {V4' : Value} {x : Int} (h : Part w0 w go kd sz mx ck V3 V4 hs ks ws) (hR : Kd.R (Kd.int .i64) 3 w1 w0.heap.size (fun _ => True) V4' (ws ++ [x])) (hg : w.grownBy w1 V4.ownBlock) (hb : Below w0.heap.size w0 w1) :
    Part w0 (w1.setCell ⟨go, 4, none⟩ V4') go kd sz mx ck V3 V4' hs ks (ws ++ [x]) := by
  obtain ⟨i4, ho4⟩ := Kd.R_own h.rw_
  have far : ∀ (b t : Nat) (cs : Array Value), w.heap[b]? = some (Obj.cells cs t (0, 0)) → t ≠ 3 → w1.heap[b]? = some (Obj.cells cs t (0, 0)) := fun b t cs hc ht =>
    (hg.block b (blk_lt hc) (fun e => by obtain ⟨cs', hc'⟩ := own_typed ho4 b e.symm; exact blk_ne hc hc' ht rfl)).trans hc
  have b1 := far go _ _ h.blk (by decide)
  have far2 : ∀ (b t : Nat) (cs : Array Value), w1.heap[b]? = some (Obj.cells cs t (0, 0)) → t ≠ 91 → (w1.setCell ⟨go, 4, none⟩ V4').heap[b]? = some (Obj.cells cs t (0, 0)) := fun b t cs hc ht =>
    (Below.heap_setCell w1 _ _ b (blk_ne hc b1 ht)).trans hc
  refine ⟨blk_put b1 4 _ rfl, h.lo, Kd.R_set hR b1 (by decide) 4 _, Kd.R_set (Kd.R_over h.rs h.rw_ (by decide) hg) b1 (by decide) 4 _, h.klen, fun i v k e1 e2 => keyStep (h.keys i v k e1 e2) fun b ⟨cs, hc⟩ => ?_, hb.setCell h.lo _⟩
  exact (far2 b 5 cs (far b 5 cs hc (by decide)) (by decide)).trans hc.symm
/-- A slot has been appended. -/
theorem Part.slot {V3' v : Value} {k : Option (List Int)} (h : Part w0 w go kd sz mx ck V3 V4 hs ks ws) (hv : KeyV w (fun b => w0.heap.size ≤ b) v k) (hR : Kd.R (Kd.raw 1) 32 w1 w0.heap.size (fun _ => True) V3' ((hs.map fun v => [v]) ++ [[v]])) (hg : w.grownBy w1 V3.ownBlock) (hb : Below w0.heap.size w0 w1) :
    Part w0 (w1.setCell ⟨go, 3, none⟩ V3') go kd sz mx ck V3' V4 (hs ++ [v]) (ks ++ [k]) ws := by
  obtain ⟨i3, ho3⟩ := Kd.R_own h.rs
  have far : ∀ (b t : Nat) (cs : Array Value), w.heap[b]? = some (Obj.cells cs t (0, 0)) → t ≠ 32 → w1.heap[b]? = some (Obj.cells cs t (0, 0)) := fun b t cs hc ht =>
    (hg.block b (blk_lt hc) (fun e => by obtain ⟨cs', hc'⟩ := own_typed ho3 b e.symm; exact blk_ne hc hc' ht rfl)).trans hc
  have b1 := far go _ _ h.blk (by decide)
  have far2 : ∀ (b t : Nat) (cs : Array Value), w1.heap[b]? = some (Obj.cells cs t (0, 0)) → t ≠ 91 → (w1.setCell ⟨go, 3, none⟩ V3').heap[b]? = some (Obj.cells cs t (0, 0)) := fun b t cs hc ht =>
    (Below.heap_setCell w1 _ _ b (blk_ne hc b1 ht)).trans hc
  have far3 : ∀ b : Nat, (∃ cs : Array Value, w.heap[b]? = some (Obj.cells cs 5 (0, 0))) → (w1.setCell ⟨go, 3, none⟩ V3').heap[b]? = w.heap[b]? := fun b ⟨cs, hc⟩ => (far2 b 5 cs (far b 5 cs hc (by decide)) (by decide)).trans hc.symm
  refine ⟨blk_put b1 3 _ rfl, h.lo, Kd.R_set (Kd.R_over h.rw_ h.rs (by decide) hg) b1 (by decide) 3 _, ?_, by rw [List.length_append, List.length_append, h.klen]; rfl, fun i u k' e1 e2 => ?_, hb.setCell h.lo _⟩
  · rw [List.map_append]
    exact Kd.R_set hR b1 (by decide) 3 _
  · by_cases hi : i < hs.length
    · rw [List.getElem?_append_left hi] at e1
      rw [List.getElem?_append_left (by rw [← h.klen]; exact hi)] at e2
      exact keyStep (h.keys i u k' e1 e2) far3
    · rw [List.getElem?_append_right (by omega)] at e1
      rw [List.getElem?_append_right (by rw [← h.klen]; omega), ← h.klen] at e2
      cases hj : i - hs.length with
      | zero =>
        rw [hj] at e1 e2
        cases e1; cases e2
        exact keyStep hv far3
      | succ j => rw [hj] at e1; simp at e1
theorem Part.done {F : Nat → Prop} {g gs gw : Nat} {wn : List Int} (h : Part w0 w go kd sz mx ck V3 V4 hs ks wn) (hx : RIx w0 F g gs gw kd sz mx ck ks wn) :
    ∃ F' gs' gw', RIx w F' go gs' gw' kd sz mx ck ks wn ∧ ∀ b, F' b → w0.heap.size ≤ b := by
  have hl := hx.len
  have hwl := hx.wlen
  obtain ⟨bs, c1, rfl, k1, k2, _, k3⟩ := ownRow (fun x => x.headD undef) rfl (fun {_ _ _ x cs} hm => by obtain ⟨rfl, h1, _⟩ := hm; match cs, h1 with | [c], _ => rfl) h.rs (by rw [List.length_map, h.klen]; omega)
  obtain ⟨bw, c2, rfl, m1, m2, _, m3⟩ := ownRow (Value.int .i64) rfl (fun hm => hm) h.rw_ (by omega)
  have e1 : (hs.map fun v => [v]).map (fun x => x.headD undef) = hs := by rw [List.map_map]; exact List.map_id'' (fun _ => rfl) hs
  rw [e1] at k3
  have hb := h.blk
  rw [List.length_map] at k1 hb
  rw [h.klen] at k1 hb
  rw [hwl] at m1 hb
  exact ⟨fun b => w0.heap.size ≤ b ∧ b < w.heap.size, bs, bw, ⟨⟨c1, c2, hb, k1, m1⟩, hwl, ⟨hs, h.klen, k3, fun i v k f1 f2 => by
      have := h.keys i v k f1 f2
      cases k with
      | none => exact this
      | some l =>
        obtain ⟨b, c, e, q1, q2, q3⟩ := this
        exact ⟨b, c, e, q1, ⟨q2, q3.lt⟩, q3⟩⟩, m3, ⟨⟨h.lo, blk_lt h.blk⟩, ⟨k2, k3.lt⟩, ⟨m2, m3.lt⟩⟩, fun b hb => hb.2, hl, hx.clk, hx.szs, hx.kb⟩, fun b hb => hb.1⟩
end
end Go.Proofs.Ytfbajampfiodeaa.RxMore
