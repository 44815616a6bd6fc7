/- mem.Memory: what Add lays, in plain words. -/
import Derived.Test.YtpjgaacdohiomaaMemA
namespace Go.Proofs.Ytpjgaacdohiomaa.MemB
open Go.RowKit Go.Proofs.Ytpjgaacdohiomaa.PMemCopies Go.Proofs.YtpjgaacdohiomaaW.PrintWords Go.Proofs.YtpjgaacdohiomaaW.PrintLast Go.Proofs.YtpjgaacdohiomaaW.PrintMore Go.Proofs.Ytpjgaacdohiomaa.Mw Go.Proofs.Ytpjgaacdohiomaa.Mem1 Go.Proofs.Ytpjgaacdohiomaa.Mem2 Go.Proofs.Ytpjgaacdohiomaa.Mem3 Go.Proofs.Ytpjgaacdohiomaa.Mem4 Go.Proofs.Ytpjgaacdohiomaa.Mem6 Go.Proofs.Ytpjgaacdohiomaa.MemA
set_option linter.unusedVariables false
set_option linter.unusedSimpArgs false
theorem wpList_append_ptr {ops : Array Oper} {o : Oper} {rest : List Oper} {a : Act} {w : World} {Q : Exit → Act → World → Prop}
    (hg : o.guard = none) (s x : Operand) (hop : o.op = Op.call { callee := Callee.builtin Builtin.append, args := #[s, x], argTypes := #[89, 89] })
    {ao : Option Addr} {bl n cap : Nat} {olds : List Value} {u : Value} {ad : Addr} {c : Nat} (hs : a.eval s = .slice ao n cap) (hx : a.eval x = .slice (some ad) 1 c)
    (hc : Came w 1 ao bl 0 n cap olds) (hb : 0 < cap → ∃ cs, w.heap[bl]? = some (.cells cs 92 (0, 0))) (hu : w.cell? ad = some u) (h1 : u.oneCell' = true) (hn : n ≤ 5000)
    (hK : ∀ ao' bl' cap' w', AppD w w' 92 ao bl n cap (olds ++ [u]) ao' bl' (n + 1) cap' → wpList Try.prog ops Q rest (a.put o.dst (.slice ao' (n + 1) cap')) w') : wpList Try.prog ops Q (o :: rest) a w := by
  refine wpList_plain hg fun K hK' => ?_
  obtain ⟨ao', bl', cap', w', hrun, hA⟩ := append_ptr hc hb o.type u ad c hu h1 hn
  unfold Oper.wp
  simp [execOp, hop, resolve, invoke, builtin, hs, hx, hrun, Result.andThen]
  exact hK' _ _ (hK ao' bl' cap' w' hA)
/-- The walk stands at a builtin's append (a quick look, ahead of a costly law). -/
theorem at_append {P : Program} {ops : Array Oper} {rest : List Oper} {a : Act} {w : World} {Q : Exit → Act → World → Prop} {dst : Option Tmp} {args : Array Operand} {tys : Array TypeId} {ty : TypeId} {pos : String} {aft : Array Edge} {gd : Option (Nat × Bool)}
    (h : wpList P ops Q ({ dst := dst, op := Op.call { callee := Callee.builtin Builtin.append, args := args, argTypes := tys }, type := ty, pos := pos, after := aft, guard := gd } :: rest) a w) :
    wpList P ops Q ({ dst := dst, op := Op.call { callee := Callee.builtin Builtin.append, args := args, argTypes := tys }, type := ty, pos := pos, after := aft, guard := gd } :: rest) a w := h
/-- A new region's blocks. -/
def newF (e : Ent) (b : Nat) : Prop := b = e.b ∨ b = e.gb ∨ (e.r.set ≠ none ∧ b = e.gs)
/-- Ahead of the append: the new blocks are laid, the counter is raised. -/
structure Mid (w W : World) (g : Nat) (ao : Option Addr) (nn cap : Nat) (nx : Int) (e : Ent) : Prop where
  os : W.os = w.os
  tape : W.tape = w.tape
  output : W.output = w.output
  old : ∀ b, b < w.heap.size → b ≠ g → W.heap[b]? = w.heap[b]?
  size : w.heap.size ≤ W.heap.size
  mem : W.heap[g]? = some (.cells #[.slice ao nn cap, .int .i64 (nx + 1)] 91 (0, 0))
  new : ∀ b, newF e b → w.heap.size ≤ b
  lt : ∀ b, newF e b → b < W.heap.size
  reg : RegAt W (newF e) e
theorem heap_setCell_at {w : World} {g i : Nat} {v : Value} {cs : Array Value} {t : TypeId} (h : w.heap[g]? = some (.cells cs t (0, 0))) : (w.setCell ⟨g, i, none⟩ v).heap[g]? = some (.cells (cs.setIfInBounds i v) t (0, 0)) := by simp [World.setCell, Array.getElem?_modify, h]
theorem heap_alloc_old {w : World} {o o' : Obj} {b : Nat} (h : w.heap[b]? = some o) : (w.alloc o').heap[b]? = some o := (Below.heap_alloc w o' b (blk_lt h)).trans h
theorem heap_setCell_old {w : World} {g i b : Nat} {v : Value} {o : Obj} (h : w.heap[b]? = some o) (hne : b ≠ g) : (w.setCell ⟨g, i, none⟩ v).heap[b]? = some o := (Below.heap_setCell w ⟨g, i, none⟩ v b hne).trans h
def newR (nx b p : Int) (sn : Nat) : Rg := ⟨nx, b, p, List.replicate sn 0, if p < 4 then none else some (List.replicate sn false)⟩
theorem newR_ok {nx b p : Int} {sn : Nat} (hs : 0 < sn ∧ sn ≤ 65536) (hb : 0 ≤ b) (hp : 0 ≤ p ∧ p ≤ 7) (hbs : b + sn ≤ 18446744073709551616) (hx : 0 ≤ nx) : (newR nx b p sn).Ok :=
  ⟨by simp [newR]; exact hs, by simp only [newR, List.length_replicate]; exact ⟨hb, hbs⟩, hp, fun x hx => by simp [newR] at hx; omega, hx⟩
section
variable {w : World} {g : Nat} {ao : Option Addr} {nn cap : Nat} {nx b p : Int} {sn : Nat} {F : Nat → Prop} {es : List Ent}
theorem mid_none (q : Nat) (hg : w.heap[g]? = some (.cells #[.slice ao nn cap, .int .i64 nx] 91 (0, 0))) (hok : (newR nx b p sn).Ok) (h4 : p < 4) :
    Mid w ((((((w.drewN q).alloc (.cells (madeCells #[.int .u8 0] sn) 5)).setCell ⟨g, 1, none⟩ (.int .i64 (nx + 1))).alloc (.cells #[.int .i64 nx, .int .u64 b, .int .i64 p, .slice (some ⟨w.heap.size, 0, none⟩) sn sn, .slice none 0 0] 94)).alloc (.cells #[.pointer (some ⟨w.heap.size + 1, 0, none⟩)] 92))) g ao nn cap nx ⟨w.heap.size + 1, w.heap.size, 0, newR nx b p sn⟩ := by
  have hgl := blk_lt hg
  have s1 : (w.drewN q).heap.size = w.heap.size := rfl
  have h0 := heap_alloc_new (w.drewN q) (.cells (madeCells #[.int .u8 0] sn) 5)
  rw [s1] at h0
  generalize e1 : (w.drewN q).alloc (.cells (madeCells #[.int .u8 0] sn) 5) = w1 at *
  have z1 : w1.heap.size = w.heap.size + 1 := by rw [← e1]; simp [World.drewN]
  have k1 : ∀ b, b < w.heap.size → w1.heap[b]? = w.heap[b]? := fun b hb => by rw [← e1]; exact Below.heap_alloc (w.drewN q) _ b hb
  have o1 : w1.os = w.os ∧ w1.tape = w.tape ∧ w1.output = w.output := by rw [← e1]; exact ⟨rfl, rfl, rfl⟩
  have g1 := heap_setCell_at (i := 1) (v := .int .i64 (nx + 1)) ((k1 g hgl).trans hg)
  have h2 := heap_setCell_old (g := g) (i := 1) (v := .int .i64 (nx + 1)) h0 (by omega)
  have k2 := fun b (h : b ≠ g) => Below.heap_setCell w1 ⟨g, 1, none⟩ (.int .i64 (nx + 1)) b h
  have z2 : (w1.setCell ⟨g, 1, none⟩ (.int .i64 (nx + 1))).heap.size = w.heap.size + 1 := by rw [← z1]; simp [World.setCell]
  have o2 : (w1.setCell ⟨g, 1, none⟩ (.int .i64 (nx + 1))).os = w.os ∧ (w1.setCell ⟨g, 1, none⟩ (.int .i64 (nx + 1))).tape = w.tape ∧ (w1.setCell ⟨g, 1, none⟩ (.int .i64 (nx + 1))).output = w.output := o1
  generalize e2 : w1.setCell ⟨g, 1, none⟩ (.int .i64 (nx + 1)) = w2 at *
  have h3 := heap_alloc_new w2 (.cells #[.int .i64 nx, .int .u64 b, .int .i64 p, .slice (some ⟨w.heap.size, 0, none⟩) sn sn, .slice none 0 0] 94)
  rw [z2] at h3
  refine ⟨o2.1, o2.2.1, o2.2.2, fun b hb hn => ?_, by simp; omega, heap_alloc_old (heap_alloc_old g1), ?_, ?_, ⟨⟨sn, .slice none 0 0, ?_, ?_, ?_⟩, ?_, ?_, hok⟩⟩
  · rw [Below.heap_alloc _ _ b (by simp; omega), Below.heap_alloc _ _ b (by omega), k2 b hn, k1 b hb]
  · rintro b (h | h | ⟨h, _⟩)
    · simp only at h; omega
    · simp only at h; omega
    · exact absurd (by simp [newR, h4]) h
  · rintro b (h | h | ⟨h, _⟩)
    · simp only at h; simp; omega
    · simp only at h; simp; omega
    · exact absurd (by simp [newR, h4]) h
  · refine heap_alloc_old ?_
    simpa [newR] using h3
  · simp [newR]
  · simp only [newR, if_pos h4, SetV]
  · exact Row.of (heap_alloc_old (heap_alloc_old h2)) (by rw [toList_madeCells_one, newR, List.map_replicate])
  · exact ⟨.inl rfl, .inr (.inl rfl)⟩
theorem mid_some (q : Nat) (hg : w.heap[g]? = some (.cells #[.slice ao nn cap, .int .i64 nx] 91 (0, 0))) (hok : (newR nx b p sn).Ok) (h4 : ¬ p < 4) :
    Mid w ((((((w.drewN q).alloc (.cells (madeCells #[.int .u8 0] sn) 5)).alloc (.cells #[.int .i64 nx, .int .u64 b, .int .i64 p, .slice (some ⟨w.heap.size, 0, none⟩) sn sn, .slice (some ⟨w.heap.size + 1 + 1, 0, none⟩) sn sn] 94)).alloc (.cells (madeCells #[.bool false] sn) 4)).setCell ⟨g, 1, none⟩ (.int .i64 (nx + 1))).alloc (.cells #[.pointer (some ⟨w.heap.size + 1, 0, none⟩)] 92)) g ao nn cap nx ⟨w.heap.size + 1, w.heap.size, w.heap.size + 1 + 1, newR nx b p sn⟩ := by
  have hgl := blk_lt hg
  have s1 : (w.drewN q).heap.size = w.heap.size := rfl
  have h0 := heap_alloc_new (w.drewN q) (.cells (madeCells #[.int .u8 0] sn) 5)
  rw [s1] at h0
  generalize e1 : (w.drewN q).alloc (.cells (madeCells #[.int .u8 0] sn) 5) = w1 at *
  have z1 : w1.heap.size = w.heap.size + 1 := by rw [← e1]; simp [World.drewN]
  have k1 : ∀ b, b < w.heap.size → w1.heap[b]? = w.heap[b]? := fun b hb => by rw [← e1]; exact Below.heap_alloc (w.drewN q) _ b hb
  have o1 : w1.os = w.os ∧ w1.tape = w.tape ∧ w1.output = w.output := by rw [← e1]; exact ⟨rfl, rfl, rfl⟩
  have h3 := heap_alloc_new w1 (.cells #[.int .i64 nx, .int .u64 b, .int .i64 p, .slice (some ⟨w.heap.size, 0, none⟩) sn sn, .slice (some ⟨w.heap.size + 1 + 1, 0, none⟩) sn sn] 94)
  rw [z1] at h3
  have h0 := heap_alloc_old (o' := (.cells #[.int .i64 nx, .int .u64 b, .int .i64 p, .slice (some ⟨w.heap.size, 0, none⟩) sn sn, .slice (some ⟨w.heap.size + 1 + 1, 0, none⟩) sn sn] 94)) h0
  have k3 : ∀ b, b < w1.heap.size → _ := Below.heap_alloc w1 (.cells #[.int .i64 nx, .int .u64 b, .int .i64 p, .slice (some ⟨w.heap.size, 0, none⟩) sn sn, .slice (some ⟨w.heap.size + 1 + 1, 0, none⟩) sn sn] 94)
  have z3 : (w1.alloc (.cells #[.int .i64 nx, .int .u64 b, .int .i64 p, .slice (some ⟨w.heap.size, 0, none⟩) sn sn, .slice (some ⟨w.heap.size + 1 + 1, 0, none⟩) sn sn] 94)).heap.size = w.heap.size + 1 + 1 := by rw [← z1]; simp
  have o3 : (w1.alloc (.cells #[.int .i64 nx, .int .u64 b, .int .i64 p, .slice (some ⟨w.heap.size, 0, none⟩) sn sn, .slice (some ⟨w.heap.size + 1 + 1, 0, none⟩) sn sn] 94)).os = w.os ∧ (w1.alloc (.cells #[.int .i64 nx, .int .u64 b, .int .i64 p, .slice (some ⟨w.heap.size, 0, none⟩) sn sn, .slice (some ⟨w.heap.size + 1 + 1, 0, none⟩) sn sn] 94)).tape = w.tape ∧ (w1.alloc (.cells #[.int .i64 nx, .int .u64 b, .int .i64 p, .slice (some ⟨w.heap.size, 0, none⟩) sn sn, .slice (some ⟨w.heap.size + 1 + 1, 0, none⟩) sn sn] 94)).output = w.output := o1
  generalize e2 : w1.alloc (.cells #[.int .i64 nx, .int .u64 b, .int .i64 p, .slice (some ⟨w.heap.size, 0, none⟩) sn sn, .slice (some ⟨w.heap.size + 1 + 1, 0, none⟩) sn sn] 94) = w2 at *
  have h4' := heap_alloc_new w2 (.cells (madeCells #[.bool false] sn) 4)
  rw [z3] at h4'
  have h0 := heap_alloc_old (o' := .cells (madeCells #[.bool false] sn) 4) h0
  have h3 := heap_alloc_old (o' := .cells (madeCells #[.bool false] sn) 4) h3
  have k4 : ∀ b, b < w2.heap.size → _ := Below.heap_alloc w2 (.cells (madeCells #[.bool false] sn) 4)
  have z4 : (w2.alloc (.cells (madeCells #[.bool false] sn) 4)).heap.size = w.heap.size + 1 + 1 + 1 := by rw [← z3]; simp
  have o4 : (w2.alloc (.cells (madeCells #[.bool false] sn) 4)).os = w.os ∧ (w2.alloc (.cells (madeCells #[.bool false] sn) 4)).tape = w.tape ∧ (w2.alloc (.cells (madeCells #[.bool false] sn) 4)).output = w.output := o3
  generalize e4 : w2.alloc (.cells (madeCells #[.bool false] sn) 4) = w4 at *
  have kk : ∀ b, b < w.heap.size → w4.heap[b]? = w.heap[b]? := fun b hb => (k4 b (by omega)).trans ((k3 b (by omega)).trans (k1 b hb))
  have g1 := heap_setCell_at (i := 1) (v := .int .i64 (nx + 1)) ((kk g hgl).trans hg)
  have hh : ∀ {b : Nat} {o : Obj}, w4.heap[b]? = some o → w.heap.size ≤ b → ((w4.setCell ⟨g, 1, none⟩ (.int .i64 (nx + 1))).alloc (.cells #[.pointer (some ⟨w.heap.size + 1, 0, none⟩)] 92)).heap[b]? = some o := fun h hb => heap_alloc_old (heap_setCell_old h (by omega))
  have z5 : ((w4.setCell ⟨g, 1, none⟩ (.int .i64 (nx + 1))).alloc (.cells #[.pointer (some ⟨w.heap.size + 1, 0, none⟩)] 92)).heap.size = w.heap.size + 1 + 1 + 1 + 1 := by rw [← z4]; simp [World.setCell]
  refine ⟨o4.1, o4.2.1, o4.2.2, fun b hb hn => ?_, by omega, heap_alloc_old g1, ?_, ?_, ⟨⟨sn, .slice (some ⟨w.heap.size + 1 + 1, 0, none⟩) sn sn, ?_, ?_, ?_⟩, ?_, ?_, hok⟩⟩
  · rw [Below.heap_alloc _ _ b (by simp [World.setCell]; omega), Below.heap_setCell w4 ⟨g, 1, none⟩ _ b hn, kk b hb]
  · rintro b (h | h | ⟨_, h⟩) <;> (simp only at h; omega)
  · rintro b (h | h | ⟨_, h⟩) <;> (simp only at h; omega)
  · refine hh ?_ (by simp only; omega)
    simpa [newR] using h3
  · simp [newR]
  · simp only [newR, if_neg h4, SetV]
    refine ⟨by simp, .inr (.inr ⟨by simp [newR, h4], rfl⟩), ⟨sn, by simp, by simp⟩, Row.of (hh h4' (by omega)) (by rw [toList_madeCells_one, List.map_replicate])⟩
  · exact Row.of (hh h0 (by simp only; omega)) (by rw [toList_madeCells_one, newR, List.map_replicate])
  · exact ⟨.inl rfl, .inr (.inl rfl)⟩
theorem _root_.Go.Proofs.Ytpjgaacdohiomaa.Mem1.RegAt.mono {w w' : World} {F F' : Nat → Prop} {e : Ent} (h : RegAt w F e) (hk : ∀ b, newF e b → w'.heap[b]? = w.heap[b]?) (hF : ∀ b, F b → F' b) : RegAt w' F' e := by
  obtain ⟨cb, sv, h1, h2, h3⟩ := h.self
  refine ⟨⟨cb, sv, (hk _ (.inl rfl)).trans h1, h2, ?_⟩, h.row.keep (hk _ (.inr (.inl rfl))), ⟨hF _ h.inF.1, hF _ h.inF.2⟩, h.ok⟩
  cases hs : e.r.set with
  | none => rw [hs] at h3; exact h3
  | some s =>
    rw [hs] at h3
    exact ⟨h3.1, hF _ h3.2.1, h3.2.2.1, h3.2.2.2.keep (hk _ (.inr (.inr ⟨(by rw [hs]; simp), rfl⟩)))⟩
theorem _root_.Go.Proofs.Ytpjgaacdohiomaa.Mem1.RegAt.inNew {w : World} {F : Nat → Prop} {e : Ent} (h : RegAt w F e) {b : Nat} (hb : newF e b) : F b := by
  obtain ⟨cb, sv, h1, h2, h3⟩ := h.self
  rcases hb with rfl | rfl | ⟨hn, rfl⟩
  · exact h.inF.1
  · exact h.inF.2
  · cases hs : e.r.set with
    | none => exact absurd hs hn
    | some s => rw [hs] at h3; exact h3.2.1
/-- No block of a region is the memory's own, nor the slice's. -/
theorem newF_ne {w : World} {F : Nat → Prop} {e : Ent} (h : RegAt w F e) {b g t : Nat} {cs : Array Value} (hg : w.heap[g]? = some (.cells cs t (0, 0))) (ht : t ≠ 94 ∧ t ≠ 5 ∧ t ≠ 4) (hb : newF e b) : b ≠ g := by
  obtain ⟨cb, sv, h1, h2, h3⟩ := h.self
  rcases hb with rfl | rfl | ⟨hn, rfl⟩
  · exact blk_ne h1 hg (Ne.symm ht.1)
  · obtain ⟨_, hr⟩ := h.row
    exact blk_ne hr hg (Ne.symm ht.2.1)
  · cases hs : e.r.set with
    | none => exact absurd hs hn
    | some s =>
      rw [hs] at h3
      obtain ⟨_, hr⟩ := h3.2.2.2
      exact blk_ne hr hg (Ne.symm ht.2.2)
def addF (F : Nat → Prop) (e : Ent) (bl : Nat) (b : Nat) : Prop := F b ∨ newF e b ∨ b = bl
def argOk (b s p : Int) : Prop := 1 ≤ s ∧ s ≤ 65536 ∧ 0 ≤ p ∧ p ≤ 7 ∧ b + s ≤ 18446744073709551616
def busyE (b l : Int) (e : Ent) : Bool := decide (e.r.base ≤ l) && decide (b ≤ e.r.base + (e.r.bytes.length - 1))
theorem not_busy {b l : Int} {sn : Nat} (h : es.any (busyE b l) = false) (hl : l = b + ((sn : Int) - 1)) (nx p : Int) : ∀ e' ∈ es, e'.r.base + e'.r.bytes.length ≤ (newR nx b p sn).base ∨ (newR nx b p sn).base + (newR nx b p sn).bytes.length ≤ e'.r.base := fun e' he => by
  have := (List.any_eq_false.1 h) e' he
  simp only [busyE, Bool.and_eq_true, decide_eq_true_eq] at this
  simp only [newR, List.length_replicate]
  omega
theorem add_done {W W' : World} {bl : Nat} {e : Ent} {ao' : Option Addr} {bl' cap' : Nat} (h : MIx w F g es nx) (hL : LiveV w F ao bl nn cap es) (hn : nn = es.length) (hM : Mid w W g ao nn cap nx e) (hA : AppD W W' 92 ao bl nn cap (es.map ptr ++ [ptr e]) ao' bl' (nn + 1) cap')
    (hid : e.r.id = nx) (hbusy : ∀ e' ∈ es, e'.r.base + e'.r.bytes.length ≤ e.r.base ∨ e.r.base + e.r.bytes.length ≤ e'.r.base) (hap : e.b ≠ e.gb) (hlen : nn < 4096) :
    MIx (W'.setCell ⟨g, 0, none⟩ (.slice ao' (nn + 1 : Nat) cap')) (addF F e bl') g (es ++ [e]) (nx + 1) ∧ Step w (W'.setCell ⟨g, 0, none⟩ (.slice ao' (nn + 1 : Nat) cap')) F (addF F e bl') := by
  subst hn
  have hgl : g < w.heap.size := h.lt g h.inF
  obtain ⟨cs', hbl'⟩ := hA.blk
  -- the block of the slice is none of the others
  have nbl : ∀ b, (b < w.heap.size ∨ newF e b) → ¬ (0 < cap ∧ b = bl) → W'.heap[b]? = W.heap[b]? := fun b hb hn => hA.step.block b (hb.elim (fun h => Nat.lt_of_lt_of_le h hM.size) (hM.lt b)) hn
  have hglW : ¬ (0 < cap ∧ g = bl) := fun ⟨hc, hg⟩ => by
    obtain ⟨-, cs, hb⟩ := hL.blk hc
    obtain ⟨_, _, _, hs, -⟩ := h.self
    rw [hg] at hs
    exact blk_ne hs hb (by decide) rfl
  have hg' : W'.heap[g]? = some (.cells #[.slice ao es.length cap, .int .i64 (nx + 1)] 91 (0, 0)) := (nbl g (.inl hgl) hglW).trans hM.mem
  have hgne : bl' ≠ g := blk_ne hbl' hg' (by decide)
  -- old regions' blocks stay
  have keepR : ∀ e' : Ent, RegAt w F e' → ∀ b, newF e' b → (W'.setCell ⟨g, 0, none⟩ (.slice ao' (es.length + 1 : Nat) cap')).heap[b]? = w.heap[b]? := fun e' hR b hb => by
    have hF := hR.inNew hb
    have hlt := h.lt b hF
    obtain ⟨_, _, _, hs, -⟩ := h.self
    have hng := newF_ne hR hs (by decide) hb
    have hnb : ¬ (0 < cap ∧ b = bl) := fun ⟨hc, hbb⟩ => by
      obtain ⟨-, cs, hb2⟩ := hL.blk hc
      exact newF_ne hR hb2 (by decide) hb hbb
    exact (Below.heap_setCell W' ⟨g, 0, none⟩ _ b hng).trans ((nbl b (.inl hlt) hnb).trans (hM.old b hlt hng))
  have keepN : ∀ b, newF e b → (W'.setCell ⟨g, 0, none⟩ (.slice ao' (es.length + 1 : Nat) cap')).heap[b]? = W.heap[b]? := fun b hb => by
    have hge := hM.new b hb
    refine (Below.heap_setCell W' ⟨g, 0, none⟩ _ b (by simp only; omega)).trans (nbl b (.inr hb) fun ⟨hc, hbb⟩ => ?_)
    have := h.lt bl (hL.blk hc).1
    omega
  have szW : (W'.setCell ⟨g, 0, none⟩ (.slice ao' (es.length + 1 : Nat) cap')).heap.size = W'.heap.size := by simp [World.setCell]
  have hsz := hA.step.size
  have hszM := hM.size
  have get : ∀ (i : Nat) (e' : Ent), (es ++ [e])[i]? = some e' → (i < es.length ∧ es[i]? = some e') ∨ (i = es.length ∧ e' = e) := fun i e' hi => by
    by_cases hl : i < es.length
    · rw [List.getElem?_append_left hl] at hi; exact .inl ⟨hl, hi⟩
    · have := (List.getElem?_eq_some_iff.1 hi).1
      rw [List.length_append, List.length_singleton] at this
      obtain rfl : i = es.length := by omega
      rw [List.getElem?_append_right (Nat.le_refl _), Nat.sub_self] at hi
      exact .inr ⟨rfl, by simpa using hi.symm⟩
  have newlt : ∀ (i : Nat) (e' : Ent), es[i]? = some e' → Apart2 e' e := fun i e' hi => by
    have hR := h.regs i e' hi
    have l1 := h.lt _ hR.inF.1
    have l2 := h.lt _ hR.inF.2
    have n1 := hM.new _ (.inl rfl)
    have n2 := hM.new _ (.inr (.inl rfl))
    refine ⟨by omega, by omega, fun hs hs' => ?_⟩
    have l3 := h.lt _ (hR.inNew (.inr (.inr ⟨hs, rfl⟩)))
    have n3 := hM.new _ (.inr (.inr ⟨hs', rfl⟩))
    omega
  have ihx := h.nx0
  refine ⟨⟨⟨ao', bl', cap', ?_, ?_, ?_⟩, ?_, ?_, .inl h.inF, ?_, ?_, ?_, ?_, by omega, by simp; omega⟩, ?_⟩
  · have := heap_setCell_at (i := 0) (v := .slice ao' (es.length + 1 : Nat) cap') hg'
    rw [List.length_append, List.length_singleton]
    exact this
  · have : Came (W'.setCell ⟨g, 0, none⟩ (.slice ao' (es.length + 1 : Nat) cap')) 1 ao' bl' 0 (es.length + 1) cap' (es.map ptr ++ [ptr e]) := Came.keep hA.came (fun _ => Below.heap_setCell W' ⟨g, 0, none⟩ _ bl' hgne) (by rw [szW]; exact Nat.le_refl _)
    rw [List.length_append, List.length_singleton, List.map_append]
    exact this
  · exact fun _ => ⟨.inr (.inr rfl), cs', heap_setCell_old hbl' hgne⟩
  · intro i e' hi
    rcases get i e' hi with ⟨_, hi⟩ | ⟨_, rfl⟩
    · exact (h.regs i e' hi).mono (keepR e' (h.regs i e' hi)) (fun b hb => .inl hb)
    · exact hM.reg.mono keepN (fun b hb => .inr (.inl hb))
  · intro i j e1 e2 h1 h2 hij
    rcases get i e1 h1 with ⟨l1, k1⟩ | ⟨l1, rfl⟩ <;> rcases get j e2 h2 with ⟨l2, k2⟩ | ⟨l2, rfl⟩
    · exact h.apart i j e1 e2 k1 k2 hij
    · exact newlt i e1 k1
    · have := newlt j e2 k2
      exact ⟨this.b.symm, this.gb.symm, fun a b => (this.gs b a).symm⟩
    · omega
  · intro b hb
    rw [szW]
    rcases hb with hb | hb | rfl
    · have := h.lt b hb; omega
    · have := hM.lt b hb; omega
    · exact blk_lt hbl'
  · intro i e' hi
    rcases get i e' hi with ⟨_, hi⟩ | ⟨_, rfl⟩
    · have := h.ids i e' hi; omega
    · omega
  · intro i j e1 e2 h1 h2 hij
    rcases get i e1 h1 with ⟨l1, k1⟩ | ⟨l1, rfl⟩ <;> rcases get j e2 h2 with ⟨l2, k2⟩ | ⟨l2, rfl⟩
    · exact h.idn i j e1 e2 k1 k2 hij
    · have := h.ids i e1 k1; omega
    · omega
    · omega
  · intro i j e1 e2 h1 h2 hij
    rcases get i e1 h1 with ⟨l1, k1⟩ | ⟨l1, rfl⟩ <;> rcases get j e2 h2 with ⟨l2, k2⟩ | ⟨l2, rfl⟩
    · exact h.dis i j e1 e2 k1 k2 hij
    · exact hbusy e1 (List.mem_of_getElem? k1)
    · exact (hbusy e2 (List.mem_of_getElem? k2)).symm
    · omega
  · refine ⟨hA.step.os.trans hM.os, hA.step.tape.trans hM.tape, hA.step.output.trans hM.output, by rw [szW]; omega, fun b hb hF => ?_, fun b hb => ?_⟩
    · have hng : b ≠ g := fun e => hF (e ▸ h.inF)
      exact (Below.heap_setCell W' ⟨g, 0, none⟩ _ b hng).trans ((nbl b (.inl hb) fun ⟨hc, hbb⟩ => hF (hbb ▸ (hL.blk hc).1)).trans (hM.old b hb hng))
    · rcases hb with hb | hb | rfl
      · exact .inl hb
      · exact .inr (hM.new b hb)
      · by_cases hc : 0 < cap ∧ b = bl
        · exact .inl (hc.2 ▸ (hL.blk hc.1).1)
        · refine .inr ?_
          rcases Nat.lt_or_ge b w.heap.size with hlt | hge
          · exfalso
            rcases hA.step.foot b rfl with h2 | h2
            · exact hc h2
            · omega
          · exact hge
/-- The append of Add, in the walk. -/
theorem wpList_add {ops : Array Oper} {o : Oper} {rest : List Oper} {a : Act} {W : World} {Q : Exit → Act → World → Prop} {e : Ent} {bl : Nat} {ad : Addr} {c : Nat}
    (hM : Mid w W g ao nn cap nx e) (h : MIx w F g es nx) (hL : LiveV w F ao bl nn cap es) (hn : nn < 4096) (hu : W.cell? ad = some (ptr e))
    (hg : o.guard = none) (s x : Operand) (hop : o.op = Op.call { callee := Callee.builtin Builtin.append, args := #[s, x], argTypes := #[89, 89] })
    (hs : a.eval s = .slice ao nn cap) (hx : a.eval x = .slice (some ad) 1 c)
    (hK : ∀ ao' bl' cap' W', Hid (AppD W W' 92 ao bl nn cap (es.map ptr ++ [ptr e]) ao' bl' (nn + 1) cap') → W'.cell? ⟨g, 0, none⟩ = some (.slice ao nn cap) → W'.frozen? ⟨g, 0, none⟩ = false → (∀ v, (W'.setCell ⟨g, 0, none⟩ v).cell? ⟨e.b, 0, none⟩ = some (.int .i64 e.r.id)) → wpList Try.prog ops Q rest (a.put o.dst (.slice ao' (nn + 1) cap')) W') : wpList Try.prog ops Q (o :: rest) a W := by
  have hgl : g < w.heap.size := h.lt g h.inF
  have nbl : 0 < cap → bl ≠ g := fun hc => by
    obtain ⟨-, cs, hb⟩ := hL.blk hc
    obtain ⟨_, _, _, hs, -⟩ := h.self
    exact blk_ne hb hs (by decide)
  have kb : 0 < cap → W.heap[bl]? = w.heap[bl]? := fun hc => hM.old bl (h.lt bl (hL.blk hc).1) (nbl hc)
  refine wpList_append_ptr hg s x hop hs hx (Came.keep hL.came kb hM.size) (fun hc => by obtain ⟨-, cs, hb⟩ := hL.blk hc; exact ⟨cs, (kb hc).trans hb⟩) hu rfl (by omega) ?_
  intro ao' bl' cap' W' hA
  have hg' : W'.heap[g]? = some (.cells #[.slice ao nn cap, .int .i64 (nx + 1)] 91 (0, 0)) := (hA.step.block g (blk_lt hM.mem) fun ⟨hc, he⟩ => nbl hc he.symm).trans hM.mem
  obtain ⟨cb, sv, h1, h2, h3⟩ := hM.reg.self
  have hge := hM.new _ (.inl rfl)
  have he' := (hA.step.block e.b (blk_lt h1) fun ⟨hc, he⟩ => by have := h.lt bl (hL.blk hc).1; omega).trans h1
  refine hK ao' bl' cap' W' (Lib.hid hA) ((blk_cell hg' 0).trans rfl) (blk_frozen hg' 0) fun v => ?_
  exact (blk_cell (heap_setCell_old he' (by omega)) 0).trans rfl
end
end Go.Proofs.Ytpjgaacdohiomaa.MemB
