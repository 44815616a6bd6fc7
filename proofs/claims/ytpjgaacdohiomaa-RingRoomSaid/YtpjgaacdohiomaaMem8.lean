/- mem: lay, of any region, walked by hand. -/
import Derived.Test.YtpjgaacdohiomaaMem7
namespace Go.Proofs.Ytpjgaacdohiomaa.Mem8
open Go.RowKit Go.Proofs.Ytpjgaacdohiomaa.PMemCopies Go.Proofs.YtpjgaacdohiomaaW.PrintWords Go.Proofs.YtpjgaacdohiomaaW.PrintLast Go.Proofs.YtpjgaacdohiomaaW.PrintMore Go.Proofs.Ytpjgaacdohiomaa.Mw Go.Proofs.Ytpjgaacdohiomaa.Mem1 Go.Proofs.Ytpjgaacdohiomaa.Mem2 Go.Proofs.Ytpjgaacdohiomaa.Mem3 Go.Proofs.Ytpjgaacdohiomaa.Mem4 Go.Proofs.Ytpjgaacdohiomaa.Mem6 Go.Proofs.Ytpjgaacdohiomaa.MemA Go.Proofs.Ytpjgaacdohiomaa.MemB
set_option linter.unusedVariables false
set_option linter.unusedSimpArgs false
/-- What lay leaves: the bytes laid; of the marks the first m. -/
structure LayD (w w' : World) (e : Ent) (i : Nat) (xs : List Int) (m : Nat) : Prop where
  os : w'.os = w.os
  tape : w'.tape = w.tape
  output : w'.output = w.output
  size : w'.heap.size = w.heap.size
  block : ∀ b, b ≠ e.gb → (e.r.set ≠ none → b ≠ e.gs) → w'.heap[b]? = w.heap[b]?
  row : Row w' e.gb 5 ((over e.r.bytes xs i).map (Value.int .u8))
  set : ∀ s, e.r.set = some s → Row w' e.gs 4 ((over s (List.replicate m true) i).map Value.bool)
theorem over_nil {α : Type} (l : List α) (i : Nat) : over l [] i = l := by simp [over]
theorem over_get {α : Type} (l xs : List α) (i j : Nat) (h : i + xs.length ≤ l.length) : (over l xs i)[j]? = if i ≤ j ∧ j < i + xs.length then xs[j - i]? else l[j]? := by
  unfold over
  rw [List.append_assoc]
  have h1 : (l.take i).length = i := by rw [List.length_take]; omega
  by_cases hj : j < i
  · rw [if_neg (by omega), List.getElem?_append_left (by omega), List.getElem?_take_of_lt hj]
  · rw [List.getElem?_append_right (by omega), h1]
    by_cases h2 : j < i + xs.length
    · rw [if_pos (by omega), List.getElem?_append_left (by omega)]
    · rw [if_neg (by omega), List.getElem?_append_right (by omega), List.getElem?_drop]
      congr 1
      omega
theorem over_more (s : List Bool) (m i : Nat) (h : i + m < s.length) : (over s (List.replicate m true) i).set (i + m) true = over s (List.replicate (m + 1) true) i := by
  apply List.ext_getElem?
  intro j
  have hl := over_len (l := s) (xs := List.replicate m true) (i := i) (by rw [List.length_replicate]; omega)
  rw [List.getElem?_set, over_get _ _ _ _ (by rw [List.length_replicate]; omega), over_get _ _ _ _ (by rw [List.length_replicate]; omega), List.length_replicate, List.length_replicate, List.getElem?_replicate, List.getElem?_replicate, hl]
  by_cases hj : i + m = j
  · rw [if_pos hj, if_pos h, if_pos (by omega), if_pos (by omega)]
  · rw [if_neg hj]
    by_cases h1 : i ≤ j ∧ j < i + m
    · rw [if_pos h1, if_pos (by omega), if_pos (by omega), if_pos (by omega)]
    · rw [if_neg h1, if_neg (by omega)]
theorem LayD.start {w : World} {F : Nat → Prop} {e : Ent} (h : RegAt w F e) {i : Nat} {xs : List Int} {rest : List Value} : LayD w (w.setRow e.gb ((over e.r.bytes xs i).map (Value.int .u8) ++ rest).toArray) e i xs 0 := by
  obtain ⟨_, hr⟩ := h.row
  refine ⟨rfl, rfl, rfl, by simp [World.setRow], fun b hb _ => heap_setRow_ne w _ hb, ⟨rest, by simp [World.setRow, Array.getElem?_modify, hr]⟩, fun s hs => ?_⟩
  obtain ⟨cb, sv, h1, h2, h3⟩ := h.self
  rw [hs] at h3
  obtain ⟨_, hr2⟩ := h3.2.2.2
  rw [List.replicate_zero, over_nil]
  exact h3.2.2.2.keep (heap_setRow_ne w _ (blk_ne hr2 hr (by decide)))
theorem LayD.more {w w' : World} {F : Nat → Prop} {e : Ent} {i m : Nat} {xs : List Int} (hR : RegAt w F e) (h : LayD w w' e i xs m) (s : List Bool) (hs : e.r.set = some s) (hm : i + m < e.r.bytes.length) (q : Nat) : LayD w ((w'.drewN q).setCell ⟨e.gs, i + m, none⟩ (.bool true)) e i xs (m + 1) := by
  obtain ⟨_, hr⟩ := hR.row
  obtain ⟨cb, sv, h1, h2, h3⟩ := hR.self
  have hset : e.r.set = some s := hs
  rw [hs] at h3
  obtain ⟨hl, hF, -, hr2⟩ := h3
  obtain ⟨_, hr2'⟩ := hr2
  have hne : e.gb ≠ e.gs := blk_ne hr hr2' (by decide)
  refine ⟨h.os, h.tape, h.output, by simpa [World.setCell] using h.size, fun b hb hn => ?_, ?_, fun s' hs' => ?_⟩
  · exact (Below.heap_setCell _ ⟨e.gs, i + m, none⟩ _ b (hn (by rw [hs]; simp))).trans (h.block b hb hn)
  · exact h.row.keep (Below.heap_setCell _ ⟨e.gs, i + m, none⟩ _ e.gb hne)
  · obtain rfl : s = s' := by rw [hs] at hs'; exact Option.some.inj hs'
    have hlen := over_len (l := s) (xs := List.replicate m true) (i := i) (by rw [List.length_replicate]; omega)
    have := Row.set_ (w := w'.drewN q) (show Row (w'.drewN q) e.gs 4 _ from h.set s hs) (i + m) (by rw [List.length_map]; omega) (.bool true)
    rwa [← List.map_set, over_more s m i (by omega)] at this
theorem lay_set {w : World} {F : Nat → Prop} {e : Ent} (h : RegAt w F e) (s : List Bool) (hset : e.r.set = some s) (i : Nat) (ad : Addr) (c : Nat) (xs : List Int) (hC : Kd.C (Kd.int .u8) w (some ad) xs.length xs) (hfit : i + xs.length ≤ e.r.bytes.length) (hx : 0 < xs.length) (hxc : xs.length ≤ c) :
    Calls Try.prog 49 #[.pointer (some ⟨e.b, 0, none⟩), .int .i64 (i : Int), .slice (some ad) xs.length c] w fun x w' => x = .returned (.tuple #[]) ∧ LayD w w' e i xs xs.length := by
  obtain ⟨cb, sv, r0, r1, r2, r3, r4, hcb, hsv⟩ := h.cells
  have hR := Lib.hid h
  rw [hset] at hsv
  obtain ⟨hsl, hsF, ⟨cs, rfl, hcs⟩, hsr⟩ := hsv
  have hlen := h.ok.len
  obtain ⟨cells, hrun, rest, hcells⟩ := lay_run h i ad c (cb - i) xs hC hfit hx 3
  have hne : e.b ≠ e.gb := by
    obtain ⟨_, _, hb, _⟩ := h.self
    obtain ⟨_, hg⟩ := h.row
    exact blk_ne hb hg (by decide)
  have hne2 : e.b ≠ e.gs := by
    obtain ⟨_, _, hb, _⟩ := h.self
    obtain ⟨_, hg⟩ := hsr
    exact blk_ne hb hg (by decide)
  have hq := fun W => run_neq_slice_nil_any (P := Try.prog) W 37 4 (some ⟨e.gs, 0, none⟩) e.r.bytes.length cs 0 0 Try.underlying37
  have hi0 : (0 : Int) ≤ (i : Int) := by omega
  have hi1 : (i : Int) ≤ (e.r.bytes.length : Int) := by omega
  have hi2 : ¬ cb = i := by omega
  have HS : Hid (LayD w (w.setRow e.gb cells) e i xs 0) := Lib.hid (by rw [hcells]; exact LayD.start h)
  have HSET := Lib.hid hset
  obtain ⟨n, hn⟩ : ∃ n, n = xs.length := ⟨_, rfl⟩
  rw [← hn] at hrun hxc hfit hx ⊢
  have HN := Lib.hid hn
  have HR4 := Lib.hid r4
  clear h hset hC r0 r1 r2 r4 hcells hn hsF hsr
  go_enter Try.func49, Try.ntmps49
  go_wp2
  go_loopw [6] (fun v wr => ∃ m : Nat, m ≤ n ∧ v = .int .i64 ((i : Int) + m) ∧ Hid (LayD w wr e i xs m)) (fun v _ => (i + n) - (intOf v).toNat)
  case atStart => exact ⟨0, Nat.zero_le _, by simp, HS⟩
  case round =>
    obtain ⟨m, hm, rfl, HD⟩ := hrel
    have r4 : wr.cell? ⟨e.b, 4, none⟩ = some (.slice (some ⟨e.gs, 0, none⟩) e.r.bytes.length cs) := (World.cell?_of_block (a := ⟨e.b, 4, none⟩) (HD.out.block e.b hne (fun _ => hne2))).trans HR4.out
    by_cases hlt : m < n
    · have hw1 : wrap64 ((i : Int) + n) = (i : Int) + n := by unfold wrap64; omega
      have hw2 : wrap64 ((i : Int) + m + 1) = (i : Int) + m + 1 := by unfold wrap64; omega
      have hrow := HD.out.set s HSET.out
      have hlo := over_len (l := s) (xs := List.replicate m true) (i := i) (by rw [List.length_replicate]; omega)
      have hcell : ∃ u, wr.cell? ⟨e.gs, i + m, none⟩ = some u := ⟨_, hrow.cell (i + m) (by rw [List.length_map]; omega)⟩
      have hfz := hrow.frozen (i + m)
      obtain ⟨u, hcell⟩ := hcell
      clear hrow hlo HS
      go_wp2
      exact ⟨⟨m + 1, by omega, by go_num, Lib.hid (LayD.more hR.out HD.out s HSET.out (by omega) 0)⟩, by simp [intOf]; omega⟩
    · obtain rfl : m = n := by omega
      have hw1 : wrap64 ((i : Int) + m) = (i : Int) + m := by unfold wrap64; omega
      go_wp2
      go_end0
      exact ⟨rfl, by rw [HN.out] at HD ⊢; exact HD.out⟩
end Go.Proofs.Ytpjgaacdohiomaa.Mem8
