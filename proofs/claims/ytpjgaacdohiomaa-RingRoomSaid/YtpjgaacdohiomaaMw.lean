/- Words on memory: a block that holds a row; which blocks a call turns; what stays as it was. -/
import Derived.Test.YtpjgaacdohiomaaPMemCopiesx0
import Derived.Lib.Hide
namespace Go.Proofs.Ytpjgaacdohiomaa.Mw
open Go.RowKit Go.Proofs.YtpjgaacdohiomaaW.PrintWords Go.Proofs.YtpjgaacdohiomaaW.PrintLast Go.Proofs.YtpjgaacdohiomaaW.PrintMore
set_option linter.unusedVariables false

/-- Block b holds just these cells of type t ahead of others. -/
def Row (w : World) (b t : Nat) (vs : List Value) : Prop := ∃ rest : List Value, w.heap[b]? = some (.cells (vs ++ rest).toArray t (0, 0))
section
variable {w w' : World} {b t : Nat} {vs : List Value}
theorem Row.keep (h : Row w b t vs) (hk : w'.heap[b]? = w.heap[b]?) : Row w' b t vs := by obtain ⟨r, h⟩ := h; exact ⟨r, hk.trans h⟩
theorem Row.cell (h : Row w b t vs) (i : Nat) (hi : i < vs.length) : w.cell? ⟨b, i, none⟩ = some vs[i] := by
  obtain ⟨r, h⟩ := h
  rw [blk_cell h i, List.getElem?_toArray, List.getElem?_append_left hi, List.getElem?_eq_getElem hi]
theorem Row.frozen (h : Row w b t vs) (i : Nat) : w.frozen? ⟨b, i, none⟩ = false := by obtain ⟨r, h⟩ := h; exact blk_frozen h i
theorem Row.set_ (h : Row w b t vs) (i : Nat) (hi : i < vs.length) (u : Value) : Row (w.setCell ⟨b, i, none⟩ u) b t (vs.set i u) := by
  obtain ⟨r, h⟩ := h
  refine ⟨r, ?_⟩
  have : (vs.set i u ++ r).toArray = (vs ++ r).toArray.setIfInBounds i u := by
    rw [List.setIfInBounds_toArray, List.set_append_left _ _ hi]
  rw [this]
  simp [World.setCell, Array.getElem?_modify, h]
theorem Row.lt (h : Row w b t vs) : b < w.heap.size := by obtain ⟨r, h⟩ := h; exact blk_lt h
theorem Row.ne {b' t' : Nat} {vs' : List Value} (h : Row w b t vs) (h' : Row w b' t' vs') (ht : t ≠ t') : b ≠ b' := by
  obtain ⟨r, h⟩ := h; obtain ⟨r', h'⟩ := h'; exact blk_ne h h' ht
/-- A block written whole. -/
theorem Row.whole {cs : Array Value} (h : w.heap[b]? = some (.cells cs t (0, 0))) : Row w b t cs.toList := ⟨[], by rw [List.append_nil]; exact h⟩
theorem Row.of {cs : Array Value} (h : w.heap[b]? = some (.cells cs t (0, 0))) (e : cs.toList = vs) : Row w b t vs := e ▸ Row.whole h
end

/-- A call turns the blocks of F alone, and lays new ones; F' is what F became. -/
structure Step (w w' : World) (F F' : Nat → Prop) : Prop where
  os : w'.os = w.os
  tape : w'.tape = w.tape
  output : w'.output = w.output
  size : w.heap.size ≤ w'.heap.size
  block : ∀ b, b < w.heap.size → ¬ F b → w'.heap[b]? = w.heap[b]?
  foot : ∀ b, F' b → F b ∨ w.heap.size ≤ b
section
variable {w w' w1 w2 : World} {F F' F1 F2 G : Nat → Prop}
theorem Step.refl (w : World) (F : Nat → Prop) : Step w w F F := ⟨rfl, rfl, rfl, Nat.le_refl _, fun _ _ _ => rfl, fun _ h => .inl h⟩
theorem Step.trans (h : Step w w1 F F1) (k : Step w1 w2 F1 F2) : Step w w2 F F2 :=
  ⟨k.os.trans h.os, k.tape.trans h.tape, k.output.trans h.output, Nat.le_trans h.size k.size,
   fun b hb hF => (k.block b (Nat.lt_of_lt_of_le hb h.size) (fun h1 => (h.foot b h1).elim hF (fun h2 => by omega))).trans (h.block b hb hF),
   fun b hb => (k.foot b hb).elim (fun h1 => h.foot b h1) (fun h1 => .inr (Nat.le_trans h.size h1))⟩
theorem Step.setCell (h : Step w w1 F F1) {p : Addr} (hp : F p.block ∨ w.heap.size ≤ p.block) (v : Value) : Step w (w1.setCell p v) F F1 :=
  ⟨h.os, h.tape, h.output, by simpa [World.setCell] using h.size, fun b hb hF => (Below.heap_setCell w1 p v b (by rintro rfl; exact hp.elim hF (fun h2 => by omega))).trans (h.block b hb hF), h.foot⟩
theorem Step.alloc (h : Step w w1 F F1) (o : Obj) : Step w (w1.alloc o) F F1 :=
  ⟨h.os, h.tape, h.output, Nat.le_trans h.size (by simp), fun b hb hF => (Below.heap_alloc w1 o b (Nat.lt_of_lt_of_le hb h.size)).trans (h.block b hb hF), h.foot⟩
theorem Step.drew (h : Step w w1 F F1) : Step w w1.drew F F1 := ⟨h.os, h.tape, h.output, h.size, h.block, h.foot⟩
theorem Step.drewN (h : Step w w1 F F1) (n : Nat) : Step w (w1.drewN n) F F1 := ⟨h.os, h.tape, h.output, h.size, h.block, h.foot⟩
theorem Step.undrewN {n : Nat} (h : Step (w.drewN n) w1 F F1) : Step w w1 F F1 := ⟨h.os, h.tape, h.output, h.size, h.block, h.foot⟩
theorem Step.of_below (h : Below w.heap.size w w') (F : Nat → Prop) : Step w w' F F := ⟨h.os, h.tape, h.output, h.size, fun b hb _ => h.block b hb, fun _ h => .inl h⟩
theorem Step.then_below (h : Step w w1 F F1) (k : Below w1.heap.size w1 w2) : Step w w2 F F1 := h.trans (Step.of_below k F1)
theorem Step.to (h : Step w w1 F F1) (k : ∀ b, F2 b → F1 b ∨ w.heap.size ≤ b) : Step w w1 F F2 := ⟨h.os, h.tape, h.output, h.size, h.block, fun b hb => (k b hb).elim (h.foot b) .inr⟩
/-- Beside blocks that it leaves as they are. -/
theorem Step.beside (h : Step w w1 F F1) (G : Nat → Prop) : Step w w1 (fun b => F b ∨ G b) (fun b => F1 b ∨ G b) :=
  ⟨h.os, h.tape, h.output, h.size, fun b hb hF => h.block b hb (fun h1 => hF (.inl h1)), fun b hb => hb.elim (fun h1 => (h.foot b h1).imp .inl id) (fun h1 => .inl (.inr h1))⟩
theorem Step.beside' (h : Step w w1 F F1) (G : Nat → Prop) : Step w w1 (fun b => G b ∨ F b) (fun b => G b ∨ F1 b) :=
  ⟨h.os, h.tape, h.output, h.size, fun b hb hF => h.block b hb (fun h1 => hF (.inr h1)), fun b hb => hb.elim (fun h1 => .inl (.inl h1)) (fun h1 => (h.foot b h1).imp .inr id)⟩
theorem Step.below {w0 : World} (h : Step w w1 F F1) (hb : Below w0.heap.size w0 w) (hF : ∀ b, F b → w0.heap.size ≤ b) : Below w0.heap.size w0 w1 :=
  ⟨h.os.trans hb.os, h.tape.trans hb.tape, h.output.trans hb.output, Nat.le_trans hb.size h.size, fun k hk => (h.block k (Nat.lt_of_lt_of_le hk hb.size) (fun h1 => by have := hF k h1; omega)).trans (hb.block k hk)⟩
theorem Step.low {B : Nat} (h : Step w w1 F F1) (hB : B ≤ w.heap.size) (hF : ∀ b, F b → B ≤ b) : ∀ b, F1 b → B ≤ b := fun b hb => (h.foot b hb).elim (hF b) (Nat.le_trans hB)
/-- What lies apart from F stays. -/
theorem Step.blk (h : Step w w1 F F1) {b : Nat} {o : Obj} (hb : w.heap[b]? = some o) (hF : ¬ F b) : w1.heap[b]? = some o := (h.block b (blk_lt hb) hF).trans hb
theorem Step.row (h : Step w w1 F F1) {b t : Nat} {vs : List Value} (hr : Row w b t vs) (hF : ¬ F b) : Row w1 b t vs := hr.keep (h.block b hr.lt hF)
theorem Step.cell (h : Step w w1 F F1) {p : Addr} {v : Value} (hc : w.cell? p = some v) (hF : ¬ F p.block) : w1.cell? p = some v :=
  (World.cell?_of_block (w := w) (h.block p.block (World.block_lt_of_cell? w p hc) hF)).trans hc
/-- Two footprints apart stay apart. -/
theorem Step.apart (h : Step w w1 F F1) (hG : ∀ b, G b → b < w.heap.size) (ha : ∀ b, F b → ¬ G b) : ∀ b, F1 b → ¬ G b := fun b h1 h2 => (h.foot b h1).elim (fun h3 => ha b h3 h2) (fun h3 => by have := hG b h2; omega)
end
/-- A row of bytes that came in, kept. -/
theorem C_step {α : Type} {d : Kd α} (hd : ∀ {w w1 : World} {x : α} {cs : List Value}, d.K w x cs → d.K w1 x cs) {w w1 : World} {F F1 : Nat → Prop} {A : Option Addr} {n : Nat} {xs : List α} (h : d.C w A n xs) (hs : Step w w1 F F1) (hap : ∀ ad, A = some ad → 0 < n → ¬ F ad.block) : d.C w1 A n xs :=
  ⟨h.1, h.2.1, fun hn => by
    obtain ⟨ad, e, hc⟩ := h.2.2 hn
    refine ⟨ad, e, fun j p hj => ?_⟩
    obtain ⟨c, hz, hr, hcell⟩ := hc j p hj
    exact ⟨c, hz, hd hr, fun i u hu => hs.cell (hcell i u hu) (by have := hap ad e hn; unfold Addr.add; split <;> exact this)⟩⟩
theorem Cu8_step {w w1 : World} {F F1 : Nat → Prop} {A : Option Addr} {n : Nat} {xs : List Int} (h : Kd.C (Kd.int .u8) w A n xs) (hs : Step w w1 F F1) (hap : ∀ ad, A = some ad → 0 < n → ¬ F ad.block) : Kd.C (Kd.int .u8) w1 A n xs :=
  C_step (fun h => h) h hs hap
end Go.Proofs.Ytpjgaacdohiomaa.Mw
