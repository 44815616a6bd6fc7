/- Plain: a slice of whatever elements can be opened, opened: its elements' cells, in the print's words. -/
import Derived.Test.YtpjgaacdohiomaaWMore
import Derived.Test.YtpjgaacdohiomaaOpen
import Derived.Deep.Slices
import Derived.Deep.Fields
import Derived.ChangeSame
import Derived.SizedLaws
namespace Go.Proofs.Ytpjgaacdohiomaa.OpenSl
open Go.ChangeShapes Go.WideShapes Go.RowKit Go.Deep Go.Proofs.YtpjgaacdohiomaaW.PrintWords Go.Proofs.YtpjgaacdohiomaaW.PrintLast Go.Proofs.Ytpjgaacdohiomaa.Open

/-- What reads as type t is told by d, within ok. -/
def Opens {α : Type} (P : Program) (t : TypeId) (d : Kd α) (ok : α → Prop) : Prop :=
  ∀ {H : Type} {enc : TypeId × Value → H} {W : World} {spare : Nat → Bool} {held : Bool} {fuel : Nat} {cs : List Value} {x : DataW H × List MemPlace}, cs.length = d.sz → DataW.trod enc P W 0 spare held fuel t cs = some x → ∃ v, d.K W v cs ∧ ok v

theorem opens_slice {α : Type} (z : α) {P : Program} {t e : TypeId} {d : Kd α} {ok : α → Prop} (ho : Opens P e d ok) (hu : P.underlying t = some (.slice e)) (hc : P.cellsOf e = d.sz)
    {H : Type} {enc : TypeId × Value → H} {W : World} {spare : Nat → Bool} {held : Bool} {D : DataW H} {ps : List MemPlace} {a : Option Addr} {len cap : Nat} (h : DataW.Trod enc P W 0 spare held t (.slice a len cap) D ps) :
    ∃ xs : List α, xs.length = len ∧ Kd.C d W a len xs ∧ len ≤ cap ∧ cap ≤ maxLen ∧ ∀ x ∈ xs, ok x := by
  obtain ⟨fuel, hf⟩ := h
  rcases open_slice hu hf with ⟨hcs, _⟩ | ⟨x, l, c, m, n, E, Pl, hcs, _, hl, hm, hmm, _, hi⟩
  · simp [Value.cells] at hcs
    obtain ⟨rfl, rfl, rfl⟩ := hcs
    exact ⟨[], rfl, ⟨rfl, by simp, fun h => absurd h (by simp)⟩, Nat.le_refl _, by simp, fun x hx => by cases hx⟩
  · simp [Value.cells] at hcs
    obtain ⟨rfl, rfl, rfl⟩ := hcs
    have hlm : len ≤ m := by rw [hmm]; split <;> omega
    have each : ∀ i, i < len → ∃ v : α, ok v ∧ ∃ c, c.length = d.sz ∧ d.K W v c ∧ ∀ j u, c[j]? = some u → W.cell? (x.add (i * d.sz + j)) = some u := fun i hil => by
      obtain ⟨cs', hcells, ht⟩ := hi i (by omega)
      obtain ⟨_, hcl, hat⟩ := World.cells?_some hcells
      obtain ⟨v, hv, hok⟩ := ho (by omega) ht
      refine ⟨v, hok, cs', d.K_len hv, hv, fun j u hu => ?_⟩
      have hj : j < P.cellsOf e := by
        have := (List.getElem?_eq_some_iff.1 hu).1
        omega
      have := hat j hj
      rw [← hc, ← Go.Deep.add_add, this, hu]
    have hg : ∃ g : Nat → α, ∀ i, i < len → ok (g i) ∧ ∃ c, c.length = d.sz ∧ d.K W (g i) c ∧ ∀ j u, c[j]? = some u → W.cell? (x.add (i * d.sz + j)) = some u := by
      have : ∀ i, ∃ v : α, i < len → ok v ∧ ∃ c, c.length = d.sz ∧ d.K W v c ∧ ∀ j u, c[j]? = some u → W.cell? (x.add (i * d.sz + j)) = some u := fun i => by
        by_cases h : i < len
        · obtain ⟨v, hv⟩ := each i h
          exact ⟨v, fun _ => hv⟩
        · exact ⟨z, fun hh => absurd hh h⟩
      exact ⟨fun i => Classical.choose (this i), fun i => Classical.choose_spec (this i)⟩
    obtain ⟨g, hg⟩ := hg
    unfold maxLen at hm
    refine ⟨(List.range len).map g, by simp, ⟨by simp, by omega, fun _ => ⟨x, rfl, fun j p hj => ?_⟩⟩, hl, hm, fun v hv => ?_⟩
    · rw [List.getElem?_map] at hj
      obtain ⟨i, hi', rfl⟩ := Option.map_eq_some_iff.1 hj
      obtain ⟨h1, h2⟩ := List.getElem?_eq_some_iff.1 hi'
      simp at h1 h2
      subst h2
      exact (hg j h1).2
    · obtain ⟨i, hi', rfl⟩ := List.mem_map.1 hv
      exact (hg i (List.mem_range.1 hi')).1

/-- A slice is no longer than its weight allows. -/
theorem sized_len {H : Type} {enc : TypeId × Value → H} {P : Program} {W : World} {base : Nat} {spare : Nat → Bool} {held : Bool} {t e : TypeId} {a : Option Addr} {len cap : Nat} {D : DataW H} {ps : List MemPlace} {ts : List TypeId} {ds : List (DataW H)} {j : Nat}
    (hsz : (DataW.weightsEach P ts ds).all (· ≤ reachBytes) = true) (ht : ts[j]? = some t) (hd : ds[j]? = some D) (hu : P.underlying t = some (.slice e)) (h : DataW.Trod enc P W base spare held t (.slice a len cap) D ps) : len * P.bytesOf e ≤ 140737488351232 := by
  obtain ⟨fuel, hf⟩ := h
  rcases open_slice hu hf with ⟨hcs, _⟩ | ⟨x, l, c, m, n, E, Pl, hcs, _, hl, hm, hmm, hx, hi⟩
  · simp [Value.cells] at hcs
    obtain ⟨rfl, rfl, rfl⟩ := hcs
    simp
  · simp [Value.cells] at hcs
    obtain ⟨rfl, rfl, rfl⟩ := hcs
    obtain ⟨hx, _⟩ := Prod.mk.inj hx
    subst hx
    have z := sized_slice hsz ht hd hu
    simp only [List.length_map, List.length_range] at z
    exact Nat.le_trans (Nat.mul_le_mul_right _ (by omega)) z
end Go.Proofs.Ytpjgaacdohiomaa.OpenSl
