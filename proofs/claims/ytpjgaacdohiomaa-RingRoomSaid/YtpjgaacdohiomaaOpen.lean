/- Plain: a struct or an array by value, opened to its cells, part by part. -/
import Derived.OpenShut
import Derived.ChangeArms
import Derived.WideShapes
namespace Go.Proofs.Ytpjgaacdohiomaa.Open
open Go.ChangeShapes Go.WideShapes Go.RowKit
section
variable {H : Type} {enc : TypeId × Value → H} {P : Program} {w : World} {base : Nat} {spare : Nat → Bool} {held : Bool}

theorem okWide_agg {r : Reach} {b0 : Nat} {t : TypeId} {v : Value} (ht : (match P.underlying t with | some (.struct _) => true | some (.array _ _) => true | _ => false) = true) (h : Value.okWide P w r b0 t v) : ∃ cs, v = .agg cs ∧ cs.size = P.cellsOf t := by
  cases hu : P.underlying t with
  | none => rw [hu] at ht; cases ht
  | some d =>
    rw [hu] at ht
    cases d with
    | struct fs => simp only [Value.okWide, hu] at h; obtain ⟨cs, h1, h2, _⟩ := h; exact ⟨cs, h1, h2⟩
    | array n e => simp only [Value.okWide, hu] at h; obtain ⟨cs, h1, h2, _⟩ := h; exact ⟨cs, h1, h2⟩
    | _ => cases ht

theorem sub_struct {t : TypeId} {fs : Array Field} {fuel : Nat} {cs cs' : List Value} {x : DataW H × List MemPlace} (ht : P.underlying t = some (.struct fs)) (h : DataW.trod enc P w base spare held fuel t cs = some x)
    (k : Nat) (f : Field) (hf : fs[k]? = some f) {o : Nat} {s : TypeId} {c : Nat} (hs : (f.offset, f.type, P.cellsOf f.type) = (o, s, c)) (hc : (cs.drop o).take c = cs') : ∃ m y, DataW.trod enc P w base spare held m s cs' = some y := by
  obtain ⟨xs, n, _, _, _, hlen, hg⟩ := DataW.trod_struct ht h
  have hk : k < fs.size := (Array.getElem?_eq_some_iff.1 hf).1
  have := hg k f hf
  simp only [Prod.mk.injEq] at hs
  obtain ⟨rfl, rfl, rfl⟩ := hs
  rw [hc] at this
  rw [List.getElem?_eq_getElem (by omega)] at this
  exact ⟨n, _, this⟩
theorem sub_array {t : TypeId} {n : Nat} {e : TypeId} {fuel : Nat} {cs cs' : List Value} {x : DataW H × List MemPlace} (ht : P.underlying t = some (.array n e)) (h : DataW.trod enc P w base spare held fuel t cs = some x)
    (k : Nat) (hk : k < n) (hc : (cs.drop (k * P.cellsOf e)).take (P.cellsOf e) = cs') : ∃ m y, DataW.trod enc P w base spare held m e cs' = some y := by
  obtain ⟨xs, m, _, _, _, hlen, hg⟩ := DataW.trod_array ht h
  have := hg k hk
  rw [hc, List.getElem?_eq_getElem (by omega)] at this
  exact ⟨m, _, this⟩
end
theorem arr1 {cs : Array Value} (h : cs.size = 1) : ∃ a, cs = #[a] := by
  obtain ⟨l⟩ := cs
  match l, h with
  | [a], _ => exact ⟨a, rfl⟩
theorem arr2 {cs : Array Value} (h : cs.size = 2) : ∃ a b, cs = #[a, b] := by
  obtain ⟨l⟩ := cs
  match l, h with
  | [a, b], _ => exact ⟨a, b, rfl⟩
theorem arr3 {cs : Array Value} (h : cs.size = 3) : ∃ a b c, cs = #[a, b, c] := by
  obtain ⟨l⟩ := cs
  match l, h with
  | [a, b, c], _ => exact ⟨a, b, c, rfl⟩
theorem arr4 {cs : Array Value} (h : cs.size = 4) : ∃ a b c d, cs = #[a, b, c, d] := by
  obtain ⟨l⟩ := cs
  match l, h with
  | [a, b, c, d], _ => exact ⟨a, b, c, d, rfl⟩
theorem arr5 {cs : Array Value} (h : cs.size = 5) : ∃ a b c d e, cs = #[a, b, c, d, e] := by
  obtain ⟨l⟩ := cs
  match l, h with
  | [a, b, c, d, e], _ => exact ⟨a, b, c, d, e, rfl⟩
theorem arr6 {cs : Array Value} (h : cs.size = 6) : ∃ a b c d e f, cs = #[a, b, c, d, e, f] := by
  obtain ⟨l⟩ := cs
  match l, h with
  | [a, b, c, d, e, f], _ => exact ⟨a, b, c, d, e, f, rfl⟩
end Go.Proofs.Ytpjgaacdohiomaa.Open
