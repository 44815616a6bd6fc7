/- Rows of bytes that a call laid anew (whatever marks they bear): read; kept; and lists of such rows. -/
import Derived.Test.YtfbajampfiodeaaHashPut
namespace Go.Proofs.Ytfbajampfiodeaa.Fresh
open Go.RowKit Go.Maps Go.Proofs.Ytfbajampfiodeaa.PArrayPlays Go.Proofs.YtfbajampfiodeaaW.PrintWords Go.Proofs.YtfbajampfiodeaaW.PrintLast Go.Proofs.YtfbajampfiodeaaW.PrintMore Go.Proofs.Ytfbajampfiodeaa.Mw Go.Proofs.Ytfbajampfiodeaa.Rx Go.Proofs.Ytfbajampfiodeaa.RxOps Go.Proofs.Ytfbajampfiodeaa.RxPut Go.Proofs.Ytfbajampfiodeaa.RxNew Go.Proofs.Ytfbajampfiodeaa.RxMore
set_option linter.unusedVariables false
/-- Bytes in a block from B on, that may be written. -/
def FreshRow (w : World) (B : Nat) (v : Value) (l : List Int) : Prop :=
  ∃ b c cs fr, v = .slice (some ⟨b, 0, none⟩) l.length c ∧ l.length ≤ c ∧ B ≤ b ∧ w.heap[b]? = some (Obj.cells cs 5 fr) ∧ ∀ j x, l[j]? = some x → w.cell? ⟨b, j, none⟩ = some (.int .u8 x) ∧ w.frozen? ⟨b, j, none⟩ = false
theorem FreshRow.keep {w w' : World} {B : Nat} {v : Value} {l : List Int} (h : FreshRow w B v l) (hk : ∀ b cs fr, w.heap[b]? = some (Obj.cells cs 5 fr) → B ≤ b → w'.heap[b]? = w.heap[b]?) : FreshRow w' B v l := by
  obtain ⟨b, c, cs, fr, e, h1, h2, h3, h4⟩ := h
  have hb := hk b cs fr h3 h2
  refine ⟨b, c, cs, fr, e, h1, h2, hb.trans h3, fun j x hj => ?_⟩
  have := h4 j x hj
  exact ⟨(World.cell?_of_block (w := w) (a := ⟨b, j, none⟩) hb).trans this.1, (World.frozen?_of_block (w := w) (a := ⟨b, j, none⟩) hb).trans this.2⟩
theorem FreshRow.lower {w : World} {B B' : Nat} {v : Value} {l : List Int} (h : FreshRow w B v l) (hB : B' ≤ B) : FreshRow w B' v l := by
  obtain ⟨b, c, cs, fr, e, h1, h2, h3⟩ := h
  exact ⟨b, c, cs, fr, e, h1, Nat.le_trans hB h2, h3⟩
/-- A list of such rows: nil, or a block from B on. -/
def FreshRows (w : World) (B : Nat) (v : Value) (rows : List (List Int)) : Prop :=
  (v = .slice none 0 0 ∧ rows = []) ∨ ∃ b c hs, v = .slice (some ⟨b, 0, none⟩) rows.length c ∧ rows.length ≤ c ∧ B ≤ b ∧ Row w b 32 hs ∧ hs.length = rows.length ∧ ∀ (i : Nat) (u : Value) (l : List Int), hs[i]? = some u → rows[i]? = some l → FreshRow w B u l
theorem blk_ne' {w : World} {g g' : Nat} {t t' : TypeId} {cs cs' : Array Value} {fr fr' : Nat × Nat} (h : w.heap[g]? = some (Obj.cells cs t fr)) (h' : w.heap[g']? = some (Obj.cells cs' t' fr')) (hne : t ≠ t') : g ≠ g' := by
  rintro rfl
  rw [h] at h'
  injection h' with h'
  injection h' with _ h'
  exact hne h'
theorem FreshRows.keep {w w' : World} {B : Nat} {v : Value} {rows : List (List Int)} (h : FreshRows w B v rows) (hk : ∀ b cs t fr, w.heap[b]? = some (Obj.cells cs t fr) → t = 5 ∨ t = 32 → B ≤ b → w'.heap[b]? = w.heap[b]?) : FreshRows w' B v rows := by
  rcases h with h | ⟨b, c, hs, e, h1, h2, ⟨r, hr⟩, h4, h5⟩
  · exact .inl h
  · exact .inr ⟨b, c, hs, e, h1, h2, ⟨r, (hk b _ 32 _ hr (.inr rfl) h2).trans hr⟩, h4, fun i u l e1 e2 => (h5 i u l e1 e2).keep fun b cs fr hb hB => hk b cs 5 fr hb (.inl rfl) hB⟩
theorem FreshRows.below {w w' : World} {B : Nat} {v : Value} {rows : List (List Int)} (h : FreshRows w B v rows) (hb : Below w.heap.size w w') : FreshRows w' B v rows :=
  h.keep fun b cs t fr hc _ _ => hb.block b (blk_lt hc)
theorem FreshRows.lower {w : World} {B B' : Nat} {v : Value} {rows : List (List Int)} (h : FreshRows w B v rows) (hB : B' ≤ B) : FreshRows w B' v rows := by
  rcases h with h | ⟨b, c, hs, e, h1, h2, h3, h4, h5⟩
  · exact .inl h
  · exact .inr ⟨b, c, hs, e, h1, Nat.le_trans hB h2, h3, h4, fun i u l e1 e2 => (h5 i u l e1 e2).lower hB⟩
theorem FreshRow.read {w : World} {B : Nat} {v : Value} {l : List Int} (h : FreshRow w B v l) (hl : l.length ≤ 9223372036854775807) : ∃ A c, v = .slice A l.length c ∧ l.length ≤ c ∧ Kd.C (Kd.int .u8) w A l.length l := by
  obtain ⟨b, c, cs, fr, e, h1, h2, h3, h4⟩ := h
  refine ⟨_, c, e, h1, Kd.C_of_reads (d := (0 : Int)) (h1 := fun _ => rfl) ⟨rfl, hl, fun _ => ⟨_, rfl, fun j hj => ?_⟩⟩⟩
  rw [add_plain, (h4 j l[j] (List.getElem?_eq_getElem hj)).1, List.getD_eq_getElem?_getD, List.getElem?_eq_getElem hj]
  rfl
theorem FreshRows.read {w : World} {B : Nat} {v : Value} {rows : List (List Int)} (h : FreshRows w B v rows) (hl : rows.length ≤ 9223372036854775807) (hll : ∀ l ∈ rows, l.length ≤ 9223372036854775807) : ∃ A c, v = .slice A rows.length c ∧ rows.length ≤ c ∧ Kd.C (Kd.slice 5 (Kd.int .u8)) w A rows.length rows := by
  rcases h with ⟨rfl, rfl⟩ | ⟨b, c, hs, e, h1, h2, h3, h4, h5⟩
  · exact ⟨none, 0, rfl, Nat.le_refl _, rfl, by simp, fun h => by simp at h⟩
  · refine ⟨_, c, e, h1, rfl, hl, fun _ => ⟨_, rfl, fun j p hj => ?_⟩⟩
    have hjl : j < rows.length := (List.getElem?_eq_some_iff.1 hj).1
    have hjs : hs[j]? = some (hs[j]'(by omega)) := List.getElem?_eq_getElem (by omega)
    obtain ⟨A', c', e', k1, k2⟩ := (h5 j _ p hjs hj).read (hll p (List.mem_of_getElem? hj))
    refine ⟨[hs[j]'(by omega)], rfl, ⟨A', c', by rw [e'], k1, k2⟩, fun i u hu => ?_⟩
    have : i = 0 ∧ u = hs[j]'(by omega) := by
      cases i with
      | zero => simpa using hu.symm
      | succ i => simp at hu
    obtain ⟨rfl, rfl⟩ := this
    have hc := h3.cell j (by omega)
    rw [show (Kd.slice 5 (Kd.int .u8)).sz = 1 from rfl, Nat.mul_one, Nat.add_zero, add_plain]
    exact hc
/-- Rows of the call's own, as the print's kinds have them. -/
theorem FreshRows.of_R {w : World} {B : Nat} {ok : Nat → Prop} {v : Value} {rows : List (List Int)} (h : Kd.R (Kd.slice 5 (Kd.int .u8)) 32 w B ok v rows) (hp : ∀ l ∈ rows, 0 < l.length) : FreshRows w B v rows := by
  obtain ⟨hok, inner, hown, hr⟩ := h
  obtain ⟨hlen, h2⟩ := hown
  have hsz : (Kd.slice 5 (Kd.int .u8)).sz = 1 := rfl
  rw [hsz] at hlen h2 hr
  rcases h2 with ⟨rfl, h2⟩ | ⟨g, cap, cur, rfl, hg, hh, hc1, hc2, hc3, hc4⟩
  · exact .inl ⟨rfl, List.eq_nil_of_length_eq_zero h2⟩
  · refine .inr ⟨g, cap, inner, rfl, hc1, hg, ⟨cur.toList.drop (rows.length * 1), ?_⟩, by omega, fun i u l e1 e2 => ?_⟩
    · rw [hh, ← hc4, List.take_append_drop]
    · obtain ⟨x, hx, hR⟩ := hr.2 i l e2
      have e3 : (inner.drop (i * 1)).take 1 = [x] := hx
      have e4 : ((inner.drop (i * 1)).take 1)[0]? = some x := by rw [e3]; rfl
      rw [List.getElem?_take_of_lt (by omega), List.getElem?_drop, Nat.mul_one, Nat.add_zero, e1] at e4
      cases e4
      obtain ⟨b, c, rfl, k1, k2, _, r, k3⟩ := keyR hR (hp l (List.mem_of_getElem? e2))
      refine ⟨b, c, _, _, rfl, k1, k2, k3, fun j y hj => ⟨?_, blk_frozen k3 j⟩⟩
      have hjl : j < l.length := (List.getElem?_eq_some_iff.1 hj).1
      have := (show Row w b 5 (l.map (Value.int .u8)) from ⟨r, k3⟩).cell j (by simpa using hjl)
      rw [this, List.getElem_map]
      rw [List.getElem?_eq_getElem hjl] at hj
      cases hj
      rfl
/-- A list in the making: its block lies behind B. -/
def OutIs (w : World) (B : Nat) (v : Value) (rows : List (List Int)) : Prop :=
  ∃ out : List Value, Kd.R (Kd.raw 1) 32 w B (fun b => B < b) v (out.map fun u => [u]) ∧ out.length = rows.length ∧ ∀ (j : Nat) (u : Value) (l : List Int), out[j]? = some u → rows[j]? = some l → FreshRow w B u l
theorem OutIs.start (w : World) (B : Nat) : OutIs w B (.slice none 0 0) [] := ⟨[], Kd.R_nil _ _ _ _ _, rfl, fun j u l h => by simp at h⟩
theorem OutIs.below {w w' : World} {B : Nat} {v : Value} {rows : List (List Int)} (h : OutIs w B v rows) (hb : Below w.heap.size w w') : OutIs w' B v rows := by
  obtain ⟨out, h1, h2, h3⟩ := h
  exact ⟨out, Kd.R_below h1 hb, h2, fun j u l e1 e2 => (h3 j u l e1 e2).keep fun b cs fr hc _ => hb.block b (blk_lt hc)⟩
theorem FreshRow.grown {w w' : World} {B : Nat} {u v : Value} {l : List Int} {α : Type} {d : Kd α} {ok : Nat → Prop} {xs : List α} (h : FreshRow w B u l) (hR : Kd.R d 32 w B ok v xs) (hg : w.grownBy w' v.ownBlock) : FreshRow w' B u l := by
  obtain ⟨i4, ho4⟩ := Kd.R_own hR
  refine h.keep fun b cs fr hc _ => hg.block b (blk_lt hc) (fun e => ?_)
  obtain ⟨cs', hc'⟩ := own_typed ho4 b e.symm
  exact blk_ne' hc hc' (by decide) rfl
theorem OutIs.snoc {w w' : World} {B : Nat} {v v' u : Value} {rows : List (List Int)} {l : List Int} {out : List Value} (h : Kd.R (Kd.raw 1) 32 w B (fun b => B < b) v (out.map fun u => [u])) (hl : out.length = rows.length) (hf : ∀ (j : Nat) (u : Value) (l : List Int), out[j]? = some u → rows[j]? = some l → FreshRow w B u l)
    (hu : FreshRow w B u l) (hR : Kd.R (Kd.raw 1) 32 w' B (fun b => B < b) v' ((out.map fun u => [u]) ++ [[u]])) (hg : w.grownBy w' v.ownBlock) : OutIs w' B v' (rows ++ [l]) := by
  refine ⟨out ++ [u], by rw [List.map_append]; exact hR, by rw [List.length_append, List.length_append, hl]; rfl, fun j x y e1 e2 => ?_⟩
  by_cases hj : j < out.length
  · rw [List.getElem?_append_left hj] at e1
    rw [List.getElem?_append_left (by omega)] at e2
    exact (hf j x y e1 e2).grown h hg
  · rw [List.getElem?_append_right (by omega)] at e1
    rw [List.getElem?_append_right (by omega), ← hl] at e2
    cases hd : j - out.length with
    | zero =>
      rw [hd] at e1 e2
      cases e1; cases e2
      exact hu.grown h hg
    | succ d => rw [hd] at e1; simp at e1
theorem OutIs.done {w : World} {B : Nat} {v : Value} {rows : List (List Int)} (h : OutIs w B v rows) : FreshRows w B v rows := by
  obtain ⟨out, ⟨hok, inner, ⟨hlen, h2⟩, hr⟩, hl, hf⟩ := h
  rw [show (Kd.raw 1).sz = 1 from rfl] at hlen h2 hr
  rw [List.length_map] at hlen h2
  rcases h2 with ⟨rfl, h2⟩ | ⟨g, cap, cur, rfl, hg, hh, hc1, hc2, hc3, hc4⟩
  · exact .inl ⟨rfl, List.eq_nil_of_length_eq_zero (by omega)⟩
  · refine .inr ⟨g, cap, inner, by rw [hl], by omega, hg, ⟨cur.toList.drop (out.length * 1), by rw [hh, ← hc4, List.take_append_drop]⟩, by omega, fun i u l e1 e2 => ?_⟩
    have hi : i < out.length := by have := (List.getElem?_eq_some_iff.1 e2).1; omega
    have h3 := hr.2 i [out[i]] (by rw [List.getElem?_map, List.getElem?_eq_getElem hi]; rfl)
    obtain ⟨h4, _⟩ := h3
    have e4 : ((inner.drop (i * 1)).take 1)[0]? = some out[i] := by rw [h4]; rfl
    rw [List.getElem?_take_of_lt (by omega), List.getElem?_drop, Nat.mul_one, Nat.add_zero, e1] at e4
    exact hf i u l (by rw [List.getElem?_eq_getElem hi, ← e4]) e2
end Go.Proofs.Ytfbajampfiodeaa.Fresh
