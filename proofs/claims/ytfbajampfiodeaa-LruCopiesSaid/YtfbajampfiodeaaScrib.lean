/- Rows that are written over byte by byte: they stay rows. -/
import Derived.Test.YtfbajampfiodeaaFresh
namespace Go.Proofs.Ytfbajampfiodeaa.Scrib
open Go.RowKit Go.Proofs.YtfbajampfiodeaaW.PrintWords Go.Proofs.YtfbajampfiodeaaW.PrintLast Go.Proofs.YtfbajampfiodeaaW.PrintMore Go.Proofs.Ytfbajampfiodeaa.Mw Go.Proofs.Ytfbajampfiodeaa.Fresh
set_option linter.unusedVariables false
/-- n bytes, whatever they are, that may be written, in a block from B on. -/
def WRow (w : World) (B : Nat) (u : Value) (n : Nat) : Prop :=
  ∃ b c cs fr, u = .slice (some ⟨b, 0, none⟩) n c ∧ n ≤ c ∧ B ≤ b ∧ w.heap[b]? = some (Obj.cells cs 5 fr) ∧ ∀ j, j < n → (∃ x, w.cell? ⟨b, j, none⟩ = some (.int .u8 x)) ∧ w.frozen? ⟨b, j, none⟩ = false
def WRows (w : World) (B : Nat) (v : Value) (ls : List Nat) : Prop :=
  (v = .slice none 0 0 ∧ ls = []) ∨ ∃ b c hs, v = .slice (some ⟨b, 0, none⟩) ls.length c ∧ ls.length ≤ c ∧ B ≤ b ∧ Row w b 32 hs ∧ hs.length = ls.length ∧ ∀ (i : Nat) (u : Value) (n : Nat), hs[i]? = some u → ls[i]? = some n → WRow w B u n
theorem WRows.of {w : World} {B : Nat} {v : Value} {rows : List (List Int)} (h : FreshRows w B v rows) : WRows w B v (rows.map List.length) := by
  rcases h with ⟨rfl, rfl⟩ | ⟨b, c, hs, e, h1, h2, h3, h4, h5⟩
  · exact .inl ⟨rfl, rfl⟩
  · refine .inr ⟨b, c, hs, by rw [List.length_map]; exact e, by rw [List.length_map]; exact h1, h2, h3, by rw [List.length_map]; exact h4, fun i u n e1 e2 => ?_⟩
    rw [List.getElem?_map] at e2
    obtain ⟨l, hl, rfl⟩ := Option.map_eq_some_iff.1 e2
    obtain ⟨b', c', cs, fr, k1, k2, k3, k4, k5⟩ := h5 i u l e1 hl
    exact ⟨b', c', cs, fr, k1, k2, k3, k4, fun j hj => ⟨⟨_, (k5 j _ (List.getElem?_eq_getElem hj)).1⟩, (k5 j _ (List.getElem?_eq_getElem hj)).2⟩⟩
theorem heap_set {w : World} {b : Nat} {cs : Array Value} {t : TypeId} {fr : Nat × Nat} (h : w.heap[b]? = some (Obj.cells cs t fr)) (j : Nat) (v : Value) : (w.setCell ⟨b, j, none⟩ v).heap[b]? = some (Obj.cells (cs.setIfInBounds j v) t fr) := by
  simp [World.setCell, Array.getElem?_modify, h]
theorem WRow.set {w : World} {B : Nat} {u : Value} {n : Nat} (h : WRow w B u n) {b : Nat} {cs : Array Value} {fr : Nat × Nat} (hb : w.heap[b]? = some (Obj.cells cs 5 fr)) (j : Nat) (y : Int) : WRow (w.setCell ⟨b, j, none⟩ (.int .u8 y)) B u n := by
  obtain ⟨b', c, cs', fr', k1, k2, k3, k4, k5⟩ := h
  by_cases e : b' = b
  · subst e
    rw [hb] at k4
    cases k4
    have h2 := heap_set hb j (.int .u8 y)
    refine ⟨b', c, _, _, k1, k2, k3, h2, fun i hi => ⟨?_, by rw [World.frozen?_setCell]; exact (k5 i hi).2⟩⟩
    obtain ⟨x, hx⟩ := (k5 i hi).1
    rw [cell_of_row w b' i _ _ _ hb] at hx
    rw [cell_of_row _ b' i _ _ _ h2, Array.getElem?_setIfInBounds]
    split
    · rename_i hji
      subst hji
      have := (Array.getElem?_eq_some_iff.1 hx).1
      rw [if_pos this]
      exact ⟨_, rfl⟩
    · exact ⟨x, hx⟩
  · have hne : (w.setCell ⟨b, j, none⟩ (.int .u8 y)).heap[b']? = w.heap[b']? := Below.heap_setCell w _ _ b' e
    exact ⟨b', c, cs', fr', k1, k2, k3, hne.trans k4, fun i hi => ⟨by obtain ⟨x, hx⟩ := (k5 i hi).1; exact ⟨x, (World.cell?_of_block (w := w) (a := ⟨b', i, none⟩) hne).trans hx⟩, by rw [World.frozen?_setCell]; exact (k5 i hi).2⟩⟩
theorem WRows.set {w : World} {B : Nat} {v : Value} {ls : List Nat} (h : WRows w B v ls) {b : Nat} {cs : Array Value} {fr : Nat × Nat} (hb : w.heap[b]? = some (Obj.cells cs 5 fr)) (j : Nat) (y : Int) : WRows (w.setCell ⟨b, j, none⟩ (.int .u8 y)) B v ls := by
  rcases h with h | ⟨b', c, hs, e, h1, h2, ⟨r, hr⟩, h4, h5⟩
  · exact .inl h
  · exact .inr ⟨b', c, hs, e, h1, h2, ⟨r, (Below.heap_setCell w _ _ b' (blk_ne' hr hb (by decide))).trans hr⟩, h4, fun i u n e1 e2 => (h5 i u n e1 e2).set hb j y⟩
/-- Row k of them. -/
theorem WRows.at_ {w : World} {B : Nat} {v : Value} {ls : List Nat} (h : WRows w B v ls) (k : Nat) (hk : k < ls.length) :
    ∃ b c b1 c1 cs fr, v = .slice (some ⟨b, 0, none⟩) ls.length c ∧ w.cell? ⟨b, k, none⟩ = some (.slice (some ⟨b1, 0, none⟩) ls[k] c1) ∧ ls[k] ≤ c1 ∧ B ≤ b1 ∧ w.heap[b1]? = some (Obj.cells cs 5 fr) ∧ ∀ j, j < ls[k] → (∃ x, w.cell? ⟨b1, j, none⟩ = some (.int .u8 x)) ∧ w.frozen? ⟨b1, j, none⟩ = false := by
  rcases h with ⟨_, rfl⟩ | ⟨b, c, hs, e, h1, h2, h3, h4, h5⟩
  · simp at hk
  · have hkh : k < hs.length := by omega
    obtain ⟨b1, c1, cs, fr, k1, k2, k3, k4, k5⟩ := h5 k _ _ (List.getElem?_eq_getElem hkh) (List.getElem?_eq_getElem hk)
    exact ⟨b, c, b1, c1, cs, fr, e, by rw [h3.cell k hkh, k1], k2, k3, k4, k5⟩
end Go.Proofs.Ytfbajampfiodeaa.Scrib
