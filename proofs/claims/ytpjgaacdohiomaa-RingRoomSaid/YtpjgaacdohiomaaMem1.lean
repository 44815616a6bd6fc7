/- mem.Memory in memory: its regions; what its blocks hold; what keeps them. -/
import Derived.Test.YtpjgaacdohiomaaMw
import Derived.Test.YtpjgaacdohiomaaFns
import Derived.WalkSpells
import Derived.Outline
import Derived.BigRegion
import Derived.Deep.Upon
import Derived.Deep.RegionLaw
import Derived.Deep.RegionWith
import Derived.Laws.MakeOwn
import Derived.OwnWalk
import Derived.LaidEqlPtr
import Derived.Test.YtpjgaacdohiomaaShelf
namespace Go.Proofs.Ytpjgaacdohiomaa.Mem1
open Go.RowKit Go.Proofs.Ytpjgaacdohiomaa.PMemCopies Go.Proofs.YtpjgaacdohiomaaW.PrintWords Go.Proofs.YtpjgaacdohiomaaW.PrintLast Go.Proofs.YtpjgaacdohiomaaW.PrintMore Go.Proofs.Ytpjgaacdohiomaa.Mw
set_option linter.unusedVariables false
set_option linter.unusedSimpArgs false
/-- A region as it is. -/
structure Rg where
  id : Int
  base : Int
  perm : Int
  bytes : List Int
  set : Option (List Bool)
/-- A region and its blocks. -/
structure Ent where
  b : Nat
  gb : Nat
  gs : Nat
  r : Rg
def Bs (l : List Int) : Prop := ∀ x ∈ l, 0 ≤ x ∧ x ≤ 255
structure Rg.Ok (r : Rg) : Prop where
  len : 0 < r.bytes.length ∧ r.bytes.length ≤ 65536
  base : 0 ≤ r.base ∧ r.base + r.bytes.length ≤ 18446744073709551616
  perm : 0 ≤ r.perm ∧ r.perm ≤ 7
  bs : Bs r.bytes
  id : 0 ≤ r.id
def ptr (e : Ent) : Value := .pointer (some ⟨e.b, 0, none⟩)
def SetV (w : World) (F : Nat → Prop) (gs n : Nat) (sv : Value) : Option (List Bool) → Prop
  | none => sv = .slice none 0 0
  | some s => s.length = n ∧ F gs ∧ (∃ c, sv = .slice (some ⟨gs, 0, none⟩) n c ∧ n ≤ c) ∧ Row w gs 4 (s.map Value.bool)
structure RegAt (w : World) (F : Nat → Prop) (e : Ent) : Prop where
  self : ∃ (cb : Nat) (sv : Value), w.heap[e.b]? = some (.cells #[.int .i64 e.r.id, .int .u64 e.r.base, .int .i64 e.r.perm, .slice (some ⟨e.gb, 0, none⟩) e.r.bytes.length cb, sv] 94 (0, 0)) ∧ e.r.bytes.length ≤ cb ∧ SetV w F e.gs e.r.bytes.length sv e.r.set
  row : Row w e.gb 5 (e.r.bytes.map (Value.int .u8))
  inF : F e.b ∧ F e.gb
  ok : e.r.Ok
structure Apart2 (e e' : Ent) : Prop where
  b : e.b ≠ e'.b
  gb : e.gb ≠ e'.gb
  gs : e.r.set ≠ none → e'.r.set ≠ none → e.gs ≠ e'.gs
/-- The slice of the live ones. -/
structure LiveV (w : World) (F : Nat → Prop) (ao : Option Addr) (bl n cap : Nat) (es : List Ent) : Prop where
  came : Came w 1 ao bl 0 n cap (es.map ptr)
  blk : 0 < cap → F bl ∧ ∃ cs, w.heap[bl]? = some (.cells cs 92 (0, 0))
/-- The memory lies at g. -/
structure MIx (w : World) (F : Nat → Prop) (g : Nat) (es : List Ent) (nx : Int) : Prop where
  self : ∃ (ao : Option Addr) (bl cap : Nat), w.heap[g]? = some (.cells #[.slice ao es.length cap, .int .i64 nx] 91 (0, 0)) ∧ LiveV w F ao bl es.length cap es
  regs : ∀ (i : Nat) (e : Ent), es[i]? = some e → RegAt w F e
  apart : ∀ (i j : Nat) (e e' : Ent), es[i]? = some e → es[j]? = some e' → i ≠ j → Apart2 e e'
  inF : F g
  lt : ∀ b, F b → b < w.heap.size
  ids : ∀ (i : Nat) (e : Ent), es[i]? = some e → e.r.id < nx
  idn : ∀ (i j : Nat) (e e' : Ent), es[i]? = some e → es[j]? = some e' → i < j → e.r.id < e'.r.id
  dis : ∀ (i j : Nat) (e e' : Ent), es[i]? = some e → es[j]? = some e' → i ≠ j → e.r.base + e.r.bytes.length ≤ e'.r.base ∨ e'.r.base + e'.r.bytes.length ≤ e.r.base
  nx0 : 0 ≤ nx
  len : es.length ≤ 4096
section
variable {w w' : World} {F F' : Nat → Prop} {g : Nat} {es : List Ent} {nx : Int}
theorem SetV.keep {gs n : Nat} {sv : Value} {s : Option (List Bool)} (h : SetV w F gs n sv s) (hk : F gs → w'.heap[gs]? = w.heap[gs]?) (hF : ∀ b, F b → F' b) : SetV w' F' gs n sv s := by
  cases s with
  | none => exact h
  | some s => exact ⟨h.1, hF _ h.2.1, h.2.2.1, h.2.2.2.keep (hk h.2.1)⟩
theorem RegAt.keep {e : Ent} (h : RegAt w F e) (hk : ∀ b, F b → w'.heap[b]? = w.heap[b]?) (hF : ∀ b, F b → F' b) : RegAt w' F' e := by
  obtain ⟨cb, sv, h1, h2, h3⟩ := h.self
  exact ⟨⟨cb, sv, (hk _ h.inF.1).trans h1, h2, h3.keep (fun hf => hk _ hf) hF⟩, h.row.keep (hk _ h.inF.2), ⟨hF _ h.inF.1, hF _ h.inF.2⟩, h.ok⟩
theorem Came.keep {ao : Option Addr} {bl n cap : Nat} {os : List Value} (h : Came w 1 ao bl 0 n cap os) (hk : 0 < cap → w'.heap[bl]? = w.heap[bl]?) (hs : w.heap.size ≤ w'.heap.size) : Came w' 1 ao bl 0 n cap os := by
  refine ⟨h.le, h.addr, fun hc => Nat.lt_of_lt_of_le (h.lt hc) hs, h.oldsLen, fun j u hj => ?_, fun j hj => ?_⟩
  · have hl := (List.getElem?_eq_some_iff.1 hj).1
    have := h.oldsLen
    have := h.le
    exact (World.cell?_of_block (w := w) (a := ⟨bl, 0 + j, none⟩) (hk (by omega))).trans (h.olds j u hj)
  · have hb := hk (by omega)
    have := h.spare j hj
    exact ⟨by rw [World.cell?_of_block (w := w) (a := ⟨bl, 0 + n * 1 + j, none⟩) hb]; exact this.1, by rw [World.frozen?_of_block (w := w) (a := ⟨bl, 0 + n * 1 + j, none⟩) hb]; exact this.2⟩
theorem LiveV.keep {ao : Option Addr} {bl n cap : Nat} (h : LiveV w F ao bl n cap es) (hk : ∀ b, F b → w'.heap[b]? = w.heap[b]?) (hF : ∀ b, F b → F' b) (hs : w.heap.size ≤ w'.heap.size) : LiveV w' F' ao bl n cap es :=
  ⟨Came.keep h.came (fun hc => hk _ (h.blk hc).1) hs, fun hc => ⟨hF _ (h.blk hc).1, by obtain ⟨cs, e⟩ := (h.blk hc).2; exact ⟨cs, (hk _ (h.blk hc).1).trans e⟩⟩⟩
theorem MIx.keepF (h : MIx w F g es nx) (hk : ∀ b, F b → w'.heap[b]? = w.heap[b]?) (hF : ∀ b, F b → F' b) (hl : ∀ b, F' b → b < w'.heap.size) (hs : w.heap.size ≤ w'.heap.size) : MIx w' F' g es nx := by
  obtain ⟨ao, bl, cap, h1, h2⟩ := h.self
  exact ⟨⟨ao, bl, cap, (hk g h.inF).trans h1, h2.keep hk hF hs⟩, fun i e he => (h.regs i e he).keep hk hF, h.apart, hF g h.inF, hl, h.ids, h.idn, h.dis, h.nx0, h.len⟩
theorem MIx.keep (h : MIx w F g es nx) (hk : ∀ b, F b → w'.heap[b]? = w.heap[b]?) (hs : w.heap.size ≤ w'.heap.size) : MIx w' F g es nx :=
  h.keepF hk (fun _ h => h) (fun b hb => Nat.lt_of_lt_of_le (h.lt b hb) hs) hs
theorem MIx.step {G G' : Nat → Prop} (h : MIx w F g es nx) (hs : Step w w' G G') (ha : ∀ b, F b → ¬ G b) : MIx w' F g es nx :=
  h.keep (fun b hb => hs.block b (h.lt b hb) (ha b hb)) hs.size
theorem MIx.drewN (h : MIx w F g es nx) (n : Nat) : MIx (w.drewN n) F g es nx := h.keep (fun _ _ => rfl) (Nat.le_refl _)
theorem MIx.below (h : MIx w F g es nx) (hb : Below w.heap.size w w') : MIx w' F g es nx := h.keep (fun b hF => hb.block b (h.lt b hF)) hb.size
theorem MIx.alloc (h : MIx w F g es nx) (o : Obj) : MIx (w.alloc o) F g es nx := h.keep (fun b hF => Below.heap_alloc w o b (h.lt b hF)) (by simp)
theorem MIx.cells (h : MIx w F g es nx) : ∃ (ao : Option Addr) (bl cap : Nat), w.cell? ⟨g, 0, none⟩ = some (.slice ao es.length cap) ∧ w.cell? ⟨g, 1, none⟩ = some (.int .i64 nx) ∧ (∀ i, w.frozen? ⟨g, i, none⟩ = false) ∧ es.length ≤ cap ∧ LiveV w F ao bl es.length cap es := by
  obtain ⟨ao, bl, cap, h1, h2⟩ := h.self
  exact ⟨ao, bl, cap, (blk_cell h1 0).trans rfl, (blk_cell h1 1).trans rfl, fun i => blk_frozen h1 i, h2.came.le, h2⟩
theorem LiveV.at_ {ao : Option Addr} {bl cap : Nat} (h : LiveV w F ao bl es.length cap es) {i : Nat} {e : Ent} (hi : es[i]? = some e) : ao = some ⟨bl, 0, none⟩ ∧ w.cell? ⟨bl, i, none⟩ = some (.pointer (some ⟨e.b, 0, none⟩)) := by
  have hl := (List.getElem?_eq_some_iff.1 hi).1
  have := h.came.le
  refine ⟨h.came.addr (by omega), ?_⟩
  have := h.came.olds i (ptr e) (by rw [List.getElem?_map, hi]; rfl)
  rwa [Nat.zero_add] at this
theorem RegAt.cells {e : Ent} (h : RegAt w F e) : ∃ (cb : Nat) (sv : Value), w.cell? ⟨e.b, 0, none⟩ = some (.int .i64 e.r.id) ∧ w.cell? ⟨e.b, 1, none⟩ = some (.int .u64 e.r.base) ∧ w.cell? ⟨e.b, 2, none⟩ = some (.int .i64 e.r.perm) ∧ w.cell? ⟨e.b, 3, none⟩ = some (.slice (some ⟨e.gb, 0, none⟩) e.r.bytes.length cb) ∧ w.cell? ⟨e.b, 4, none⟩ = some sv ∧ e.r.bytes.length ≤ cb ∧ SetV w F e.gs e.r.bytes.length sv e.r.set := by
  obtain ⟨cb, sv, h1, h2, h3⟩ := h.self
  exact ⟨cb, sv, (blk_cell h1 0).trans rfl, (blk_cell h1 1).trans rfl, (blk_cell h1 2).trans rfl, (blk_cell h1 3).trans rfl, (blk_cell h1 4).trans rfl, h2, h3⟩
end
end Go.Proofs.Ytpjgaacdohiomaa.Mem1
