/- Rows that are written over byte by byte: they stay rows. a copy goes on by itself, what is answered may be written over, a nil index refuses: walked by hand. -/
import Derived.Test.YtfbajampfiodeaaFresh
import Derived.Test.YtfbajampfiodeaaPlays09
namespace Go.Proofs.Ytfbajampfiodeaa.Scrib
open Go.RowKit Go.Proofs.YtfbajampfiodeaaW.PrintWords Go.Proofs.YtfbajampfiodeaaW.PrintLast Go.Proofs.YtfbajampfiodeaaW.PrintMore Go.Proofs.Ytfbajampfiodeaa.Mw Go.Proofs.Ytfbajampfiodeaa.Fresh
set_option linter.unusedVariables false
/-- n bytes, whatever they are, that may be written, in a block from B on. -/
def WRow (w : World) (B : Nat) (u : Value) (n : Nat) : Prop :=
  ∃ b c cs fr, u = .slice (some ⟨b, 0, none⟩) n c ∧ n ≤ c ∧ B ≤ b ∧ w.heap[b]? = some (Obj.cells cs 5 fr) ∧ ∀ j, j < n → (∃ x, w.cell? ⟨b, j, none⟩ = some (.int .u8 x)) ∧ w.frozen? ⟨b, j, none⟩ = false
def WRows (w : World) (B : Nat) (v : Value) (ls : List Nat) : Prop :=
  (v = .slice none 0 0 ∧ ls = []) ∨ ∃ b c hs, v = .slice (some ⟨b, 0, none⟩) ls.length c ∧ ls.length ≤ c ∧ B ≤ b ∧ Row w b 32 hs ∧ hs.length = ls.length ∧ ∀ (i : Nat) (u : Value) (n : Nat), hs[i]? = some u → ls[i]? = some n → WRow w B u n
theorem WRows.of {w : World} {B : Nat} {v : Value} {rows : List (List Int)} (h : FreshRows w B v rows) : WRows w B v (rows.map List.length) := by
  rcases h with ⟨rfl, rfl⟩ | ⟨b, c, hs, e, h1, h2, h3, h4, h5⟩
  · exact .inl ⟨rfl, rfl⟩
  · refine .inr ⟨b, c, hs, by rw [List.length_map]; exact e, by rw [List.length_map]; exact h1, h2, h3, by rw [List.length_map]; exact h4, fun i u n e1 e2 => ?_⟩
    rw [List.getElem?_map] at e2
    obtain ⟨l, hl, rfl⟩ := Option.map_eq_some_iff.1 e2
    obtain ⟨b', c', cs, fr, k1, k2, k3, k4, k5⟩ := h5 i u l e1 hl
    exact ⟨b', c', cs, fr, k1, k2, k3, k4, fun j hj => ⟨⟨_, (k5 j _ (List.getElem?_eq_getElem hj)).1⟩, (k5 j _ (List.getElem?_eq_getElem hj)).2⟩⟩
theorem heap_set {w : World} {b : Nat} {cs : Array Value} {t : TypeId} {fr : Nat × Nat} (h : w.heap[b]? = some (Obj.cells cs t fr)) (j : Nat) (v : Value) : (w.setCell ⟨b, j, none⟩ v).heap[b]? = some (Obj.cells (cs.setIfInBounds j v) t fr) := by
  simp [World.setCell, Array.getElem?_modify, h]
theorem WRow.set {w : World} {B : Nat} {u : Value} {n : Nat} (h : WRow w B u n) {b : Nat} {cs : Array Value} {fr : Nat × Nat} (hb : w.heap[b]? = some (Obj.cells cs 5 fr)) (j : Nat) (y : Int) : WRow (w.setCell ⟨b, j, none⟩ (.int .u8 y)) B u n := by
  obtain ⟨b', c, cs', fr', k1, k2, k3, k4, k5⟩ := h
  by_cases e : b' = b
  · subst e
    rw [hb] at k4
    cases k4
    have h2 := heap_set hb j (.int .u8 y)
    refine ⟨b', c, _, _, k1, k2, k3, h2, fun i hi => ⟨?_, by rw [World.frozen?_setCell]; exact (k5 i hi).2⟩⟩
    obtain ⟨x, hx⟩ := (k5 i hi).1
    rw [cell_of_row w b' i _ _ _ hb] at hx
    rw [cell_of_row _ b' i _ _ _ h2, Array.getElem?_setIfInBounds]
    split
    · rename_i hji
      subst hji
      have := (Array.getElem?_eq_some_iff.1 hx).1
      rw [if_pos this]
      exact ⟨_, rfl⟩
    · exact ⟨x, hx⟩
  · have hne : (w.setCell ⟨b, j, none⟩ (.int .u8 y)).heap[b']? = w.heap[b']? := Below.heap_setCell w _ _ b' e
    exact ⟨b', c, cs', fr', k1, k2, k3, hne.trans k4, fun i hi => ⟨by obtain ⟨x, hx⟩ := (k5 i hi).1; exact ⟨x, (World.cell?_of_block (w := w) (a := ⟨b', i, none⟩) hne).trans hx⟩, by rw [World.frozen?_setCell]; exact (k5 i hi).2⟩⟩
theorem WRows.set {w : World} {B : Nat} {v : Value} {ls : List Nat} (h : WRows w B v ls) {b : Nat} {cs : Array Value} {fr : Nat × Nat} (hb : w.heap[b]? = some (Obj.cells cs 5 fr)) (j : Nat) (y : Int) : WRows (w.setCell ⟨b, j, none⟩ (.int .u8 y)) B v ls := by
  rcases h with h | ⟨b', c, hs, e, h1, h2, ⟨r, hr⟩, h4, h5⟩
  · exact .inl h
  · exact .inr ⟨b', c, hs, e, h1, h2, ⟨r, (Below.heap_setCell w _ _ b' (blk_ne' hr hb (by decide))).trans hr⟩, h4, fun i u n e1 e2 => (h5 i u n e1 e2).set hb j y⟩
/-- Row k of them. -/
theorem WRows.at_ {w : World} {B : Nat} {v : Value} {ls : List Nat} (h : WRows w B v ls) (k : Nat) (hk : k < ls.length) :
    ∃ b c b1 c1 cs fr, v = .slice (some ⟨b, 0, none⟩) ls.length c ∧ w.cell? ⟨b, k, none⟩ = some (.slice (some ⟨b1, 0, none⟩) ls[k] c1) ∧ ls[k] ≤ c1 ∧ B ≤ b1 ∧ w.heap[b1]? = some (Obj.cells cs 5 fr) ∧ ∀ j, j < ls[k] → (∃ x, w.cell? ⟨b1, j, none⟩ = some (.int .u8 x)) ∧ w.frozen? ⟨b1, j, none⟩ = false := by
  rcases h with ⟨_, rfl⟩ | ⟨b, c, hs, e, h1, h2, h3, h4, h5⟩
  · simp at hk
  · have hkh : k < hs.length := by omega
    obtain ⟨b1, c1, cs, fr, k1, k2, k3, k4, k5⟩ := h5 k _ _ (List.getElem?_eq_getElem hkh) (List.getElem?_eq_getElem hk)
    exact ⟨b, c, b1, c1, cs, fr, e, by rw [h3.cell k hkh, k1], k2, k3, k4, k5⟩
end Go.Proofs.Ytfbajampfiodeaa.Scrib
namespace Go.Proofs.Ytfbajampfiodeaa.Copies09
open Go.RowKit Go.Proofs.Ytfbajampfiodeaa.PArrayPlays Go.Proofs.YtfbajampfiodeaaW.PrintWords Go.Proofs.YtfbajampfiodeaaW.PrintLast Go.Proofs.YtfbajampfiodeaaW.PrintMore Go.Proofs.Ytfbajampfiodeaa.Mw Go.Proofs.Ytfbajampfiodeaa.Rx Go.Proofs.Ytfbajampfiodeaa.RxPut Go.Proofs.Ytfbajampfiodeaa.Fresh Go.Proofs.Ytfbajampfiodeaa.LpmM Go.Proofs.Ytfbajampfiodeaa.Imp09 Go.Proofs.Ytfbajampfiodeaa.Sim09 Go.Proofs.Ytfbajampfiodeaa.First09 Go.Proofs.Ytfbajampfiodeaa.Op Go.Proofs.Ytfbajampfiodeaa.Plays09 Go.Proofs.Ytfbajampfiodeaa.Scrib
set_option linter.unusedVariables false
attribute [local go_sem] max2_int max_two min_two max_three min_three max_four min_four
theorem min40 (n m : Nat) (h : m = min n 40) : Builtin.min2 (.int .i64 (n : Int)) (.int .i64 40) = pure (.int .i64 (m : Int)) := by
  rw [min2_int]
  split
  · rw [show (m : Int) = 40 by omega]
  · rw [show (m : Int) = (n : Int) by omega]
/-- Two pairs, apart, behind the world w0. -/
def Two (w0 w : World) (gx gr gc gd n : Nat) (sz : Int) : Prop :=
  ∃ F G, Both w F gx gr n sz ∧ Both w G gc gd n sz ∧ (∀ b, F b → ¬ G b) ∧ (∀ b, F b → w0.heap.size ≤ b) ∧ (∀ b, G b → w0.heap.size ≤ b) ∧ Below w0.heap.size w0 w
theorem Two.below {w0 w w' : World} {gx gr gc gd n : Nat} {sz : Int} (h : Two w0 w gx gr gc gd n sz) (hb : Below w.heap.size w w') : Two w0 w' gx gr gc gd n sz := by
  obtain ⟨F, G, h1, h2, h3, h4, h5, h6⟩ := h
  exact ⟨F, G, h1.below hb, h2.below hb, h3, h4, h5, h6.trans (hb.mono h6.size)⟩
theorem Two.made {w0 w w5 w6 : World} {F1 F2 G1 G2 : Nat → Prop} {gx gr gc gd n : Nat} {sz : Int} {st : St} (hI : Imp w F1 gx n sz st) (hR : RI w F2 gr kd sz st) (ha : ∀ b, F1 b → ¬ F2 b) (hck : st.ck ≤ n) (hF : ∀ b, F1 b ∨ F2 b → w0.heap.size ≤ b) (hBel : Below w0.heap.size w0 w)
    (hI5 : Imp w5 G1 gc n sz st) (hG1 : ∀ b, G1 b → w.heap.size ≤ b) (hB5 : Below w.heap.size w w5) (hR6 : RI w6 G2 gd kd sz st) (hG2 : ∀ b, G2 b → w5.heap.size ≤ b) (hB6 : Below w5.heap.size w5 w6) : Two w0 w6 gx gr gc gd n sz := by
  have hB : Below w.heap.size w w6 := hB5.trans (hB6.mono hB5.size)
  refine ⟨_, _, ⟨F1, F2, st, rfl, hI.keep (fun b hb => hB.block b (hI.lt b hb)) hB.size, hR.keep (fun b hb => hB.block b (hR.lt b hb)) hB.size, ha, hck⟩, ⟨G1, G2, st, rfl, hI5.keep (fun b hb => hB6.block b (hI5.lt b hb)) hB6.size, hR6, fun b h1 h2 => by have := hI5.lt b h1; have := hG2 b h2; omega, hck⟩, ?_, hF, ?_, hBel.trans (hB.mono hBel.size)⟩
  · intro b h1 h2
    have : b < w.heap.size := h1.elim (hI.lt b) (hR.lt b)
    rcases h2 with h2 | h2
    · have := hG1 b h2; omega
    · have := hG2 b h2; have := hB5.size; omega
  · intro b h2
    rcases h2 with h2 | h2
    · exact Nat.le_trans hBel.size (hG1 b h2)
    · exact Nat.le_trans (Nat.le_trans hBel.size hB5.size) (hG2 b h2)
/-- The copies have gone on. -/
theorem Two.went {w0 w w7 : World} {o : Obj} {F G G4 : Nat → Prop} {gx gr gc gd n : Nat} {sz : Int} (h1 : Both w F gx gr n sz) (hFG : ∀ b, F b → ¬ G b) (hF : ∀ b, F b → w0.heap.size ≤ b) (hG : ∀ b, G b → w0.heap.size ≤ b) (hBel : Below w0.heap.size w0 w)
    (h2 : Both w7 G4 gc gd (n + 1) sz) (hs : Step (w.alloc o) w7 G G4) : Two w0 w7 gx gr gc gd (n + 1) sz := by
  have h1' := h1.alloc o
  refine ⟨F, G4, (h1'.step hs hFG).more, h2, fun b hb h4 => (hs.foot b h4).elim (hFG b hb) (fun h => by have := h1.lt b hb; simp at h; omega), hF, hs.low (Nat.le_trans hBel.size (by simp)) hG, hs.below (below_alloc hBel _) hG⟩
/-- The outer row's cells stay. -/
theorem WRows.far {w : World} {B : Nat} {A : Nat} {q c : Nat} {ls : List Nat} {u : Value} (h : WRows w B (.slice (some ⟨A, 0, none⟩) q c) ls) {b : Nat} {cs : Array Value} {fr : Nat × Nat} (hb : w.heap[b]? = some (Obj.cells cs 5 fr)) {p j : Nat} {y : Value} (hc : w.cell? ⟨A, p, none⟩ = some u) : (w.setCell ⟨b, j, none⟩ y).cell? ⟨A, p, none⟩ = some u := by
  rcases h with ⟨h, _⟩ | ⟨b', c', hs, e, _, _, ⟨r, hr⟩, _⟩
  · cases h
  · injection e with e
    injection e with e
    injection e with e
    subst e
    exact (World.cell?_of_block (w := w) (a := ⟨A, p, none⟩) (Below.heap_setCell w _ _ A (blk_ne' hr hb (by decide)))).trans hc
set_option maxRecDepth 100000 in
set_option maxHeartbeats 4000000 in
theorem law_bad (s m : Int) (v1 v2 : Value) (w : World) (h : ¬ SzOk s m) :
    Calls Try.prog 15 #[.agg #[.int .i64 s, .int .i64 m], v1, v2] w fun e w' => e = .returned (.bool true) ∧ Below w.heap.size w w' := by
  have HW := Lib.hid (wb_below w s m)
  have HH := Lib.hid h
  clear h
  go_enter Try.func15, Try.ntmps15
  go_wp2_with fail
  refine (first_calls (wb w s m)).mono ?_
  rintro e w1 ⟨rfl, hB⟩
  have HB := Lib.hid hB
  clear hB
  go_wp2_with fail
  refine (nil_find _ _ _ _).mono ?_
  rintro e w2 ⟨rfl, rfl⟩
  go_wp2_with fail
  refine (nil_put _ _ _ _ _).mono ?_
  rintro e w2 ⟨rfl, rfl⟩
  go_wp2_with fail
  refine (nil_del _ _ _ _).mono ?_
  rintro e w2 ⟨rfl, rfl⟩
  go_wp2_with fail
  refine (nil_keys _).mono ?_
  rintro e w2 ⟨rfl, rfl⟩
  go_wp2_with fail
  refine (nil_copy _).mono ?_
  rintro e w2 ⟨rfl, hw2⟩
  have HB2 : Hid (Below (wb w s m).heap.size (wb w s m) w2) := Lib.hid (hw2 ▸ below_alloc (below_alloc (below_alloc HB.out _) _) _)
  clear hw2
  obtain ⟨k0, k1⟩ := wb_at HB2.out
  go_wp2_with fail
  refine ((new_bad s m HH.out).1 w2).mono ?_
  rintro e w3 ⟨rfl, rfl⟩
  go_wp2_with fail
  refine ((new_bad s m HH.out).2 w2).mono ?_
  rintro e w4 ⟨rfl, rfl⟩
  go_wp2
  go_ret
  exact ⟨rfl, HW.out.trans (HB2.out.mono HW.out.size)⟩
set_option maxRecDepth 100000 in
set_option maxHeartbeats 16000000 in
theorem law_ok (s m : Int) (A B : Option Addr) (xs ys : List (Int × List Int × Int)) (c d : Nat) (w : World) (hok : SzOk s m) (hx : Kd.C kOp w A xs.length xs) (hc : xs.length ≤ c) (hcm : c ≤ 9223372036854775807) (hxb : ∀ p ∈ xs, ∀ b ∈ p.2.1, 0 ≤ b ∧ b ≤ 255) (hy : Kd.C kOp w B ys.length ys) (hd : ys.length ≤ d) (hdm : d ≤ 9223372036854775807) (hyb : ∀ p ∈ ys, ∀ b ∈ p.2.1, 0 ≤ b ∧ b ≤ 255) :
    Calls Try.prog 15 #[.agg #[.int .i64 s, .int .i64 m], .slice A xs.length c, .slice B ys.length d] w fun e w' => e = .returned (.bool true) ∧ Below w.heap.size w w' := by
  have HX := Lib.hid (Kd.C_below hx (wb_below w s m))
  have HY := Lib.hid (Kd.C_below hy (wb_below w s m))
  have HXB := Lib.hid hxb; have HYB := Lib.hid hyb
  have HW := Lib.hid (wb_below w s m)
  have HOK := Lib.hid hok
  clear hx hxb hok hy hyb
  obtain ⟨nn, hnn⟩ : ∃ nn : Nat, nn = xs.length := ⟨_, rfl⟩
  obtain ⟨no, hno⟩ : ∃ no : Nat, no = ys.length := ⟨_, rfl⟩
  obtain ⟨mm, hmm⟩ : ∃ mm : Nat, mm = min nn 40 := ⟨_, rfl⟩
  obtain ⟨mo, hmo⟩ : ∃ mo : Nat, mo = min no 40 := ⟨_, rfl⟩
  rw [← hnn] at hc HX ⊢
  rw [← hno] at hd HY ⊢
  have m1 := min40 nn mm hmm
  have m2 := min40 no mo hmo
  have m3 : mm ≤ c := by omega
  have m4 : mo ≤ d := by omega
  have HM := Lib.hid (show mm ≤ nn ∧ mm ≤ 40 ∧ mo ≤ no ∧ mo ≤ 40 by omega)
  have m5 : max (mm : Int) 0 = (mm : Int) := by omega
  have m6 : max (mo : Int) 0 = (mo : Int) := by omega
  clear hnn hno hmm hmo
  go_enter Try.func15, Try.ntmps15
  go_wp2_with fail
  refine (first_calls (wb w s m)).mono ?_
  rintro e w1 ⟨rfl, hB⟩
  have HB := Lib.hid hB
  clear hB
  go_wp2_with fail
  refine (nil_find _ _ _ _).mono ?_
  rintro e w2 ⟨rfl, rfl⟩
  go_wp2_with fail
  refine (nil_put _ _ _ _ _).mono ?_
  rintro e w2 ⟨rfl, rfl⟩
  go_wp2_with fail
  refine (nil_del _ _ _ _).mono ?_
  rintro e w2 ⟨rfl, rfl⟩
  go_wp2_with fail
  refine (nil_keys _).mono ?_
  rintro e w2 ⟨rfl, rfl⟩
  go_wp2_with fail
  refine (nil_copy _).mono ?_
  rintro e w2 ⟨rfl, hw2⟩
  have HB2 : Hid (Below (wb w s m).heap.size (wb w s m) w2) := Lib.hid (hw2 ▸ below_alloc (below_alloc (below_alloc HB.out _) _) _)
  clear hw2
  obtain ⟨k0, k1⟩ := wb_at HB2.out
  go_wp2_with fail
  refine ((new_both s m HOK.out).1 w2).mono ?_
  rintro e w3 ⟨F1, g, rfl, hI, hF1, hB3⟩
  have HI := Lib.hid hI; have HF1 := Lib.hid hF1; have HB3 := Lib.hid hB3
  have l0 := old hB3 k0
  have l1 := old hB3 k1
  clear hI hF1 hB3 k0 k1
  go_wp2_with fail
  refine ((new_both s m HOK.out).2 w3).mono ?_
  rintro e w4 ⟨F2, gr, rfl, hR, hF2, hB4⟩
  have HS : Hid (StB (wb w s m) w4 g gr 0 (szOf s)) := Lib.hid (StB.new HB2.out HI.out HF1.out HB3.out hR hF2 hB4)
  clear hR hF2 hB4 HB HI HF1 HB2 HB3 l0 l1
  go_wp2
  go_loopw [105] (fun i wr => ∃ k : Nat, k ≤ mm ∧ i = .int .i64 (k : Int) ∧ Hid (StB (wb w s m) wr g gr k (szOf s))) (fun i _ => mm - (intOf i).toNat)
  case atStart => exact ⟨0, Nat.zero_le _, rfl, HS⟩
  case round =>
    clear HS
    obtain ⟨k, hk, rfl, HS⟩ := hrel
    by_cases hlt : k < mm
    · obtain ⟨F, hBo, hF, hBel⟩ := HS.out
      have HBO := Lib.hid hBo; have HF := Lib.hid hF; have HBEL := Lib.hid hBel
      obtain ⟨ad, a, l, f, A1, c1, rfl, g0, g1, g2, hl, hC, hm⟩ := op_at HX.out k (by have := HM.out; omega)
      have HC := Lib.hid (Kd.C_below hC hBel)
      have HLOW := Lib.hid (row_low hC)
      have g0' := old hBel g0
      have g1' := old hBel g1
      have g2' := old hBel g2
      have HMB := Lib.hid (HXB.out _ hm)
      have HK40 := Lib.hid (show k < 40 by have := HM.out; omega)
      clear hC hm g0 g1 g2 hBo hF hBel HS
      go_wp2_with fail
      refine (one_ _ F g gr k (szOf s) (HBO.out.alloc _) (by have := HK40.out; omega) a A1 c1 l f (Kd.C_alloc HC.out _) hl HMB.out (fun ad e hp h => by have := HLOW.out ad e hp; have := HF.out _ h; omega)).mono ?_
      rintro e w5 ⟨rfl, F4, hB4, hS4⟩
      have HS4 : Hid (StB (wb w s m) w5 g gr (k + 1) (szOf s)) := Lib.hid ⟨F4, hB4, hS4.low (Nat.le_trans HBEL.out.size (by simp)) HF.out, hS4.below (below_alloc HBEL.out _) HF.out⟩
      clear hB4 hS4 HBO HF HBEL
      go_wp2
      go_roundw
      case rel => exact ⟨k + 1, by omega, by go_num, HS4⟩
      case measure => simp [intOf]; omega
    · have HKM := Lib.hid (show k ≤ 40 by have := HM.out; omega)
      obtain ⟨F, ⟨F1, F2, st, rfl, hI, hR, ha, hck⟩, hF, hBel⟩ := HS.out
      have HI := Lib.hid hI; have HR := Lib.hid hR; have HA := Lib.hid (And.intro ha hck); have HF := Lib.hid hF; have HBEL := Lib.hid hBel
      clear hI hR ha hck hF hBel HS
      go_wp2_with fail
      refine (imp_copy HI.out).mono ?_
      rintro e w5 ⟨G1, gc, rfl, hI5, hG1, hB5⟩
      have HI5 := Lib.hid hI5; have HG1 := Lib.hid hG1; have HB5 := Lib.hid hB5
      clear hI5 hG1 hB5
      go_wp2_with fail
      refine (ref_copy (HR.out.keep (fun b hb => HB5.out.block b (HR.out.lt b hb)) HB5.out.size)).mono ?_
      rintro e w6 ⟨G2, gd, rfl, hR6, hG2, hB6⟩
      have HT : Hid (Two (wb w s m) w6 g gr gc gd k (szOf s)) := Lib.hid (Two.made HI.out HR.out HA.out.1 HA.out.2 HF.out HBEL.out HI5.out HG1.out HB5.out hR6 hG2 hB6)
      clear hR6 hG2 hB6 HI HR HA HF HBEL HI5 HG1 HB5
      go_wp2
      go_loopw [124] (fun i wr => ∃ j : Nat, j ≤ mo ∧ i = .int .i64 (j : Int) ∧ Hid (∃ n, n ≤ k + j ∧ Two (wb w s m) wr g gr gc gd n (szOf s))) (fun i _ => mo - (intOf i).toNat)
      case atStart => exact ⟨0, Nat.zero_le _, rfl, Lib.hid ⟨k, by omega, HT.out⟩⟩
      case round =>
        clear HT
        obtain ⟨j, hj, rfl, HT⟩ := hrel
        obtain ⟨n, hn, hT⟩ := HT.out
        have HNK := Lib.hid hn
        by_cases hlj : j < mo
        · obtain ⟨F, G, hFB, hGB, hFG, hF, hG, hBel⟩ := hT
          have HFB := Lib.hid hFB; have HGB := Lib.hid hGB; have HFG := Lib.hid hFG; have HF := Lib.hid hF; have HG := Lib.hid hG; have HBEL := Lib.hid hBel
          obtain ⟨ad, a, l, f, A1, c1, rfl, g0, g1, g2, hl, hC, hm⟩ := op_at HY.out j (by have := HM.out; omega)
          have HC := Lib.hid (Kd.C_below hC hBel)
          have HLOW := Lib.hid (row_low hC)
          have g0' := old hBel g0
          have g1' := old hBel g1
          have g2' := old hBel g2
          have HMB := Lib.hid (HYB.out _ hm)
          have HN6 := Lib.hid (show n < 1000000 by have := HM.out; have := HKM.out; omega)
          clear hC hm g0 g1 g2 hFB hGB hFG hF hG hBel HT hn
          go_wp2_with fail
          refine (one_ _ G gc gd n (szOf s) (HGB.out.alloc _) HN6.out a A1 c1 l f (Kd.C_alloc HC.out _) hl HMB.out (fun ad e hp h => by have := HLOW.out ad e hp; have := HG.out _ h; omega)).mono ?_
          rintro e w7 ⟨rfl, G4, hB7, hS7⟩
          have HT7 : Hid (Two (wb w s m) w7 g gr gc gd (n + 1) (szOf s)) := Lib.hid (Two.went HFB.out HFG.out HF.out HG.out HBEL.out hB7 hS7)
          clear hB7 hS7 HFB HGB HFG HF HG HBEL g0' g1' g2'
          go_wp2_with fail
          obtain ⟨F, G, hFB, ⟨E1, E2, st, rfl, hI, hR, ha, hck⟩, hFG, hF, hG, hBel⟩ := HT7.out
          have HRW := Lib.hid hR.rows
          refine (imp_keys hI).mono ?_
          clear hFB hI hR ha hck hFG hF hG hBel
          rintro e w8 ⟨v, rfl, hF8, hB8⟩
          have HWR := Lib.hid (WRows.of hF8)
          obtain ⟨ls, hls⟩ : ∃ ls, ls = (keys st).map List.length := ⟨_, rfl⟩
          have HLS : Hid (ls.length ≤ 64 ∧ ∀ (i : Nat) (n : Nat), ls[i]? = some n → n ≤ 16) := Lib.hid (by
            subst hls
            refine ⟨by rw [List.length_map]; exact HRW.out.1, fun i n h => ?_⟩
            rw [List.getElem?_map] at h
            obtain ⟨l, hl, rfl⟩ := Option.map_eq_some_iff.1 h
            exact (HRW.out.2 l (List.mem_of_getElem? hl)).2.1)
          rw [← hls] at HWR
          have HB8 := Lib.hid hB8
          obtain ⟨vA, vc, hv⟩ : ∃ A c, v = .slice A ls.length c := by
            rcases HWR.out with ⟨h, h2⟩ | ⟨b, c, hs, h, _⟩
            · exact ⟨_, _, by rw [h, h2]; rfl⟩
            · exact ⟨_, _, h⟩
          subst hv
          obtain ⟨q, hq⟩ : ∃ q, q = ls.length := ⟨_, rfl⟩
          have HQ := Lib.hid hq
          have q64 : q ≤ 64 := by rw [hq]; exact HLS.out.1
          rw [← hq] at HWR ⊢
          clear hF8 hB8 hls hq
          go_wp2
          go_loopw [136] (fun i wr => ∃ p : Nat, p ≤ q ∧ i = .int .i64 (p : Int) ∧ Hid (WRows wr w7.heap.size (.slice vA q vc) ls) ∧ Hid (Below w7.heap.size w7 wr)) (fun i _ => q - (intOf i).toNat)
          case atStart => exact ⟨0, Nat.zero_le _, rfl, HWR, HB8⟩
          case round =>
            clear HWR HB8
            obtain ⟨p, hp, rfl, HWR, HB8⟩ := hrel
            by_cases hlp : p < q
            · obtain ⟨vb, vc', b1, c1', cs, fr, hv, x0, x1, x2, x3, x4⟩ := HWR.out.at_ p (by rw [← HQ.out]; exact hlp)
              have hv2 : vA = some ⟨vb, 0, none⟩ := by injection hv
              subst hv2
              generalize hln : ls[p]'(by rw [← HQ.out]; exact hlp) = ln at *
              have HLN := Lib.hid hln
              have ln16 : ln ≤ 16 := HLS.out.2 p ln (by rw [← hln]; exact List.getElem?_eq_getElem _)
              clear hv x2 x3 x4 hln
              go_wp2
              go_loopw [142] (fun i wr => ∃ t : Nat, t ≤ ln ∧ i = .int .i64 (t : Int) ∧ Hid (WRows wr w7.heap.size (.slice (some ⟨vb, 0, none⟩) q vc) ls) ∧ Hid (Below w7.heap.size w7 wr) ∧ Hid (wr.cell? ⟨vb, p, none⟩ = some (.slice (some ⟨b1, 0, none⟩) ln c1'))) (fun i _ => ln - (intOf i).toNat)
              case atStart => exact ⟨0, Nat.zero_le _, rfl, HWR, HB8, Lib.hid x0⟩
              case round =>
                clear HWR HB8 x0
                obtain ⟨t, ht, rfl, HWR, HB8, HX0⟩ := hrel
                by_cases hlt2 : t < ln
                · obtain ⟨vb2, vc2, b2, c2, cs, fr, hv, y0, y1, y2, y3, y4⟩ := HWR.out.at_ p (by rw [← HQ.out]; exact hlp)
                  have hv2 : vb2 = vb := by injection hv with h1; injection h1 with h1; injection h1 with h1; exact h1.symm
                  subst hv2
                  have hb2 : b2 = b1 := by have := HX0.out; rw [y0] at this; injection this with h1; injection h1 with h1; injection h1 with h1; injection h1
                  subst hb2
                  obtain ⟨⟨z, z0⟩, z1⟩ := y4 t (by rw [HLN.out]; exact hlt2)
                  have HY3 := Lib.hid y3; have HY2 := Lib.hid y2
                  clear hv y0 y1 y2 y3 y4
                  go_wp2
                  have HWR2 := Lib.hid (HWR.out.set HY3.out t (Go.bits .xor .u8 z 255))
                  have HB9 := Lib.hid (HB8.out.setCell (p := ⟨b2, t, none⟩) HY2.out (.int .u8 (Go.bits .xor .u8 z 255)))
                  have HX9 : Hid ((wr.setCell ⟨b2, t, none⟩ (.int .u8 (Go.bits .xor .u8 z 255))).cell? ⟨vb2, p, none⟩ = some (.slice (some ⟨b2, 0, none⟩) ln c1')) := Lib.hid (WRows.far HWR.out HY3.out HX0.out)
                  go_roundw
                  case rel => exact ⟨t + 1, by omega, by go_num, HWR2, HB9, HX9⟩
                  case measure => simp [intOf]; omega
                · go_wp2
                  go_roundw
                  case rel => exact ⟨p + 1, by omega, by go_num, HWR, HB8⟩
                  case measure => simp [intOf]; omega
            · have HT9 : Hid (∃ n, n ≤ k + (j + 1) ∧ Two (wb w s m) wr g gr gc gd n (szOf s)) := Lib.hid ⟨n + 1, by have := HNK.out; omega, HT7.out.below HB8.out⟩
              clear HT7 HWR HB8
              go_wp2
              go_roundw
              case rel => exact ⟨j + 1, by omega, by go_num, HT9⟩
              case measure => simp [intOf]; omega
        · obtain ⟨F, G, ⟨D1, D2, st1, rfl, hI1, hR1, _⟩, ⟨E1, E2, st2, rfl, hI2, hR2, _⟩, hFG, hF, hG, hBel⟩ := hT
          have HI1 := Lib.hid hI1; have HR1 := Lib.hid hR1; have HI2 := Lib.hid hI2; have HR2 := Lib.hid hR2; have HBEL := Lib.hid hBel
          have HRW1 := Lib.hid hR1.rows; have HRW2 := Lib.hid hR2.rows
          have HRL1 := Lib.hid (show ∀ l ∈ keys st1, l.length ≤ 9223372036854775807 from fun l hl => by have := (hR1.rows.2 l hl).2.1; omega)
          have HRL2 := Lib.hid (show ∀ l ∈ keys st2, l.length ≤ 9223372036854775807 from fun l hl => by have := (hR2.rows.2 l hl).2.1; omega)
          clear hI1 hR1 hI2 hR2 hFG hF hG hBel hn HT
          go_wp2_with fail
          refine (imp_keys HI1.out).mono ?_
          rintro e wa1 ⟨va, rfl, hFa, hBa⟩
          obtain ⟨Aa1, ca1, rfl, _, hCa⟩ := hFa.read (by have := HRW1.out.1; omega) HRL1.out
          have HCa1 := Lib.hid hCa; have HBa1 := Lib.hid hBa
          clear hFa hBa hCa
          go_wp2_with fail
          refine (ref_keys (HR1.out.keep (fun b hb => HBa1.out.block b (HR1.out.lt b hb)) HBa1.out.size)).mono ?_
          rintro e wb1 ⟨vb, rfl, hFb, hBb⟩
          obtain ⟨Ab1, cb1, rfl, _, hCb⟩ := hFb.read (by have := HRW1.out.1; omega) HRL1.out
          have HCb1 := Lib.hid hCb; have HBb1 := Lib.hid (below_step HBa1.out hBb)
          have HCa1' := Lib.hid (Kd.C_below HCa1.out hBb)
          clear hFb hBb hCb HCa1
          go_wp2_with fail
          refine (SameKeys09.sameKeys_ wb1 Aa1 Ab1 ca1 cb1 (keys st1) (keys st1) HCa1'.out HCb1.out (fun l hl => (HRW1.out.2 l hl).2.2) (fun l hl => (HRW1.out.2 l hl).2.2) (by have := HRW1.out.1; omega)).mono ?_
          rintro e wc1 ⟨rfl, n1, rfl⟩
          rw [decide_eq_true rfl]
          go_wp2_with fail
          refine (imp_keys (HI2.out.keep (w' := wb1.drewN n1) (fun b hb => HBb1.out.block b (HI2.out.lt b hb)) HBb1.out.size)).mono ?_
          rintro e wa2 ⟨va, rfl, hFa, hBa⟩
          obtain ⟨Aa2, ca2, rfl, _, hCa⟩ := hFa.read (by have := HRW2.out.1; omega) HRL2.out
          have HCa2 := Lib.hid hCa; have HBa2 := Lib.hid hBa
          clear hFa hBa hCa
          go_wp2_with fail
          refine (ref_keys ((HR2.out.keep (w' := wb1.drewN n1) (fun b hb => HBb1.out.block b (HR2.out.lt b hb)) HBb1.out.size).keep (fun b hb => HBa2.out.block b ((HR2.out.keep (w' := wb1.drewN n1) (fun b hb => HBb1.out.block b (HR2.out.lt b hb)) HBb1.out.size).lt b hb)) HBa2.out.size)).mono ?_
          rintro e wb2 ⟨vb, rfl, hFb, hBb⟩
          obtain ⟨Ab2, cb2, rfl, _, hCb⟩ := hFb.read (by have := HRW2.out.1; omega) HRL2.out
          have HCb2 := Lib.hid hCb; have HBb2 := Lib.hid (below_step HBa2.out hBb)
          have HCa2' := Lib.hid (Kd.C_below HCa2.out hBb)
          clear hFb hBb hCb HCa2
          go_wp2_with fail
          refine (SameKeys09.sameKeys_ wb2 Aa2 Ab2 ca2 cb2 (keys st2) (keys st2) HCa2'.out HCb2.out (fun l hl => (HRW2.out.2 l hl).2.2) (fun l hl => (HRW2.out.2 l hl).2.2) (by have := HRW2.out.1; omega)).mono ?_
          rintro e wc2 ⟨rfl, n2, rfl⟩
          rw [decide_eq_true rfl]
          go_wp2
          go_ret
          exact ⟨rfl, pw_below_drewN (HW.out.trans ((HBEL.out.trans ((pw_below_drewN HBb1.out n1).mono HBEL.out.size)).mono HW.out.size |>.trans (HBb2.out.mono (Nat.le_trans HW.out.size (Nat.le_trans HBEL.out.size HBb1.out.size))))) n2⟩
/-- The law, at whatever it is called. -/
theorem law_calls (s m : Int) (A B : Option Addr) (xs ys : List (Int × List Int × Int)) (c d : Nat) (w : World) (hx : Kd.C kOp w A xs.length xs) (hc : xs.length ≤ c) (hcm : c ≤ 9223372036854775807) (hxb : ∀ p ∈ xs, ∀ b ∈ p.2.1, 0 ≤ b ∧ b ≤ 255) (hy : Kd.C kOp w B ys.length ys) (hd : ys.length ≤ d) (hdm : d ≤ 9223372036854775807) (hyb : ∀ p ∈ ys, ∀ b ∈ p.2.1, 0 ≤ b ∧ b ≤ 255) :
    Calls Try.prog 15 #[.agg #[.int .i64 s, .int .i64 m], .slice A xs.length c, .slice B ys.length d] w fun e w' => e = .returned (.bool true) ∧ Below w.heap.size w w' := by
  by_cases h : SzOk s m
  · exact law_ok s m A B xs ys c d w h hx hc hcm hxb hy hd hdm hyb
  · exact law_bad s m _ _ w h
end Go.Proofs.Ytfbajampfiodeaa.Copies09
