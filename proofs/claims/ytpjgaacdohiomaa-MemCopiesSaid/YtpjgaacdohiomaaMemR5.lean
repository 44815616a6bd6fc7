/- mem: what a copy lays, in plain words. mem.Memory: Copy, walked by hand. The document's memory: Copy, walked by hand. -/
import Derived.Test.YtpjgaacdohiomaaMemQ
import Derived.Test.YtpjgaacdohiomaaMemR3
namespace Go.Proofs.Ytpjgaacdohiomaa.MemCb
open Go.RowKit Go.Proofs.Ytpjgaacdohiomaa.PMemCopies Go.Proofs.YtpjgaacdohiomaaW.PrintWords Go.Proofs.YtpjgaacdohiomaaW.PrintLast Go.Proofs.YtpjgaacdohiomaaW.PrintMore Go.Proofs.Ytpjgaacdohiomaa.Mw Go.Proofs.Ytpjgaacdohiomaa.Mem1 Go.Proofs.Ytpjgaacdohiomaa.Mem2 Go.Proofs.Ytpjgaacdohiomaa.Mem3 Go.Proofs.Ytpjgaacdohiomaa.Mem4 Go.Proofs.Ytpjgaacdohiomaa.Mem6 Go.Proofs.Ytpjgaacdohiomaa.MemA Go.Proofs.Ytpjgaacdohiomaa.MemB
set_option linter.unusedVariables false
set_option linter.unusedSimpArgs false
/-- Ahead of the append: the new blocks are laid, the counter stands. -/
structure MidC (w W : World) (g : Nat) (ao : Option Addr) (nn cap : Nat) (nx : Int) (e : Ent) : Prop where
  os : W.os = w.os
  tape : W.tape = w.tape
  output : W.output = w.output
  old : ∀ b, b < w.heap.size → b ≠ g → W.heap[b]? = w.heap[b]?
  size : w.heap.size ≤ W.heap.size
  mem : W.heap[g]? = some (.cells #[.slice ao nn cap, .int .i64 nx] 91 (0, 0))
  new : ∀ b, newF e b → w.heap.size ≤ b
  lt : ∀ b, newF e b → b < W.heap.size
  reg : RegAt W (newF e) e
section
variable {w : World} {g : Nat} {ao : Option Addr} {nn cap : Nat} {nx b p : Int} {sn : Nat} {F : Nat → Prop} {es : List Ent}
theorem copy_done {W W' : World} {bl : Nat} {e : Ent} {ao' : Option Addr} {bl' cap' : Nat} (h : MIx w F g es nx) (hL : LiveV w F ao bl nn cap es) (hn : nn = es.length) (hM : MidC w W g ao nn cap nx e) (hA : AppD W W' 92 ao bl nn cap (es.map ptr ++ [ptr e]) ao' bl' (nn + 1) cap')
    (hid : e.r.id < nx) (hidn : ∀ e' ∈ es, e'.r.id < e.r.id) (hbusy : ∀ e' ∈ es, e'.r.base + e'.r.bytes.length ≤ e.r.base ∨ e.r.base + e.r.bytes.length ≤ e'.r.base) (hap : e.b ≠ e.gb) (hlen : nn < 4096) :
    MIx (W'.setCell ⟨g, 0, none⟩ (.slice ao' (nn + 1 : Nat) cap')) (addF F e bl') g (es ++ [e]) nx ∧ Step w (W'.setCell ⟨g, 0, none⟩ (.slice ao' (nn + 1 : Nat) cap')) F (addF F e bl') := by
  subst hn
  have hgl : g < w.heap.size := h.lt g h.inF
  obtain ⟨cs', hbl'⟩ := hA.blk
  -- the block of the slice is none of the others
  have nbl : ∀ b, (b < w.heap.size ∨ newF e b) → ¬ (0 < cap ∧ b = bl) → W'.heap[b]? = W.heap[b]? := fun b hb hn => hA.step.block b (hb.elim (fun h => Nat.lt_of_lt_of_le h hM.size) (hM.lt b)) hn
  have hglW : ¬ (0 < cap ∧ g = bl) := fun ⟨hc, hg⟩ => by
    obtain ⟨-, cs, hb⟩ := hL.blk hc
    obtain ⟨_, _, _, hs, -⟩ := h.self
    rw [hg] at hs
    exact blk_ne hs hb (by decide) rfl
  have hg' : W'.heap[g]? = some (.cells #[.slice ao es.length cap, .int .i64 nx] 91 (0, 0)) := (nbl g (.inl hgl) hglW).trans hM.mem
  have hgne : bl' ≠ g := blk_ne hbl' hg' (by decide)
  -- old regions' blocks stay
  have keepR : ∀ e' : Ent, RegAt w F e' → ∀ b, newF e' b → (W'.setCell ⟨g, 0, none⟩ (.slice ao' (es.length + 1 : Nat) cap')).heap[b]? = w.heap[b]? := fun e' hR b hb => by
    have hF := hR.inNew hb
    have hlt := h.lt b hF
    obtain ⟨_, _, _, hs, -⟩ := h.self
    have hng := newF_ne hR hs (by decide) hb
    have hnb : ¬ (0 < cap ∧ b = bl) := fun ⟨hc, hbb⟩ => by
      obtain ⟨-, cs, hb2⟩ := hL.blk hc
      exact newF_ne hR hb2 (by decide) hb hbb
    exact (Below.heap_setCell W' ⟨g, 0, none⟩ _ b hng).trans ((nbl b (.inl hlt) hnb).trans (hM.old b hlt hng))
  have keepN : ∀ b, newF e b → (W'.setCell ⟨g, 0, none⟩ (.slice ao' (es.length + 1 : Nat) cap')).heap[b]? = W.heap[b]? := fun b hb => by
    have hge := hM.new b hb
    refine (Below.heap_setCell W' ⟨g, 0, none⟩ _ b (by simp only; omega)).trans (nbl b (.inr hb) fun ⟨hc, hbb⟩ => ?_)
    have := h.lt bl (hL.blk hc).1
    omega
  have szW : (W'.setCell ⟨g, 0, none⟩ (.slice ao' (es.length + 1 : Nat) cap')).heap.size = W'.heap.size := by simp [World.setCell]
  have hsz := hA.step.size
  have hszM := hM.size
  have get : ∀ (i : Nat) (e' : Ent), (es ++ [e])[i]? = some e' → (i < es.length ∧ es[i]? = some e') ∨ (i = es.length ∧ e' = e) := fun i e' hi => by
    by_cases hl : i < es.length
    · rw [List.getElem?_append_left hl] at hi; exact .inl ⟨hl, hi⟩
    · have := (List.getElem?_eq_some_iff.1 hi).1
      rw [List.length_append, List.length_singleton] at this
      obtain rfl : i = es.length := by omega
      rw [List.getElem?_append_right (Nat.le_refl _), Nat.sub_self] at hi
      exact .inr ⟨rfl, by simpa using hi.symm⟩
  have newlt : ∀ (i : Nat) (e' : Ent), es[i]? = some e' → Apart2 e' e := fun i e' hi => by
    have hR := h.regs i e' hi
    have l1 := h.lt _ hR.inF.1
    have l2 := h.lt _ hR.inF.2
    have n1 := hM.new _ (.inl rfl)
    have n2 := hM.new _ (.inr (.inl rfl))
    refine ⟨by omega, by omega, fun hs hs' => ?_⟩
    have l3 := h.lt _ (hR.inNew (.inr (.inr ⟨hs, rfl⟩)))
    have n3 := hM.new _ (.inr (.inr ⟨hs', rfl⟩))
    omega
  have ihx := h.nx0
  refine ⟨⟨⟨ao', bl', cap', ?_, ?_, ?_⟩, ?_, ?_, .inl h.inF, ?_, ?_, ?_, ?_, by omega, by simp; omega⟩, ?_⟩
  · have := heap_setCell_at (i := 0) (v := .slice ao' (es.length + 1 : Nat) cap') hg'
    rw [List.length_append, List.length_singleton]
    exact this
  · have : Came (W'.setCell ⟨g, 0, none⟩ (.slice ao' (es.length + 1 : Nat) cap')) 1 ao' bl' 0 (es.length + 1) cap' (es.map ptr ++ [ptr e]) := Came.keep hA.came (fun _ => Below.heap_setCell W' ⟨g, 0, none⟩ _ bl' hgne) (by rw [szW]; exact Nat.le_refl _)
    rw [List.length_append, List.length_singleton, List.map_append]
    exact this
  · exact fun _ => ⟨.inr (.inr rfl), cs', heap_setCell_old hbl' hgne⟩
  · intro i e' hi
    rcases get i e' hi with ⟨_, hi⟩ | ⟨_, rfl⟩
    · exact (h.regs i e' hi).mono (keepR e' (h.regs i e' hi)) (fun b hb => .inl hb)
    · exact hM.reg.mono keepN (fun b hb => .inr (.inl hb))
  · intro i j e1 e2 h1 h2 hij
    rcases get i e1 h1 with ⟨l1, k1⟩ | ⟨l1, rfl⟩ <;> rcases get j e2 h2 with ⟨l2, k2⟩ | ⟨l2, rfl⟩
    · exact h.apart i j e1 e2 k1 k2 hij
    · exact newlt i e1 k1
    · have := newlt j e2 k2
      exact ⟨this.b.symm, this.gb.symm, fun a b => (this.gs b a).symm⟩
    · omega
  · intro b hb
    rw [szW]
    rcases hb with hb | hb | rfl
    · have := h.lt b hb; omega
    · have := hM.lt b hb; omega
    · exact blk_lt hbl'
  · intro i e' hi
    rcases get i e' hi with ⟨_, hi⟩ | ⟨_, rfl⟩
    · exact h.ids i e' hi
    · exact hid
  · intro i j e1 e2 h1 h2 hij
    rcases get i e1 h1 with ⟨l1, k1⟩ | ⟨l1, rfl⟩ <;> rcases get j e2 h2 with ⟨l2, k2⟩ | ⟨l2, rfl⟩
    · exact h.idn i j e1 e2 k1 k2 hij
    · exact hidn e1 (List.mem_of_getElem? k1)
    · omega
    · omega
  · intro i j e1 e2 h1 h2 hij
    rcases get i e1 h1 with ⟨l1, k1⟩ | ⟨l1, rfl⟩ <;> rcases get j e2 h2 with ⟨l2, k2⟩ | ⟨l2, rfl⟩
    · exact h.dis i j e1 e2 k1 k2 hij
    · exact hbusy e1 (List.mem_of_getElem? k1)
    · exact (hbusy e2 (List.mem_of_getElem? k2)).symm
    · omega
  · refine ⟨hA.step.os.trans hM.os, hA.step.tape.trans hM.tape, hA.step.output.trans hM.output, by rw [szW]; omega, fun b hb hF => ?_, fun b hb => ?_⟩
    · have hng : b ≠ g := fun e => hF (e ▸ h.inF)
      exact (Below.heap_setCell W' ⟨g, 0, none⟩ _ b hng).trans ((nbl b (.inl hb) fun ⟨hc, hbb⟩ => hF (hbb ▸ (hL.blk hc).1)).trans (hM.old b hb hng))
    · rcases hb with hb | hb | rfl
      · exact .inl hb
      · exact .inr (hM.new b hb)
      · by_cases hc : 0 < cap ∧ b = bl
        · exact .inl (hc.2 ▸ (hL.blk hc.1).1)
        · refine .inr ?_
          rcases Nat.lt_or_ge b w.heap.size with hlt | hge
          · exfalso
            rcases hA.step.foot b rfl with h2 | h2
            · exact hc h2
            · omega
          · exact hge
theorem wpList_copy {ops : Array Oper} {o : Oper} {rest : List Oper} {a : Act} {W : World} {Q : Exit → Act → World → Prop} {e : Ent} {bl : Nat} {ad : Addr} {c : Nat}
    (hM : MidC w W g ao nn cap nx e) (h : MIx w F g es nx) (hL : LiveV w F ao bl nn cap es) (hn : nn < 4096) (hu : W.cell? ad = some (ptr e))
    (hg : o.guard = none) (s x : Operand) (hop : o.op = Op.call { callee := Callee.builtin Builtin.append, args := #[s, x], argTypes := #[89, 89] })
    (hs : a.eval s = .slice ao nn cap) (hx : a.eval x = .slice (some ad) 1 c)
    (hK : ∀ ao' bl' cap' W', Hid (AppD W W' 92 ao bl nn cap (es.map ptr ++ [ptr e]) ao' bl' (nn + 1) cap') → W'.cell? ⟨g, 0, none⟩ = some (.slice ao nn cap) → W'.frozen? ⟨g, 0, none⟩ = false → (∀ v, (W'.setCell ⟨g, 0, none⟩ v).cell? ⟨e.b, 0, none⟩ = some (.int .i64 e.r.id)) → wpList Try.prog ops Q rest (a.put o.dst (.slice ao' (nn + 1) cap')) W') : wpList Try.prog ops Q (o :: rest) a W := by
  have hgl : g < w.heap.size := h.lt g h.inF
  have nbl : 0 < cap → bl ≠ g := fun hc => by
    obtain ⟨-, cs, hb⟩ := hL.blk hc
    obtain ⟨_, _, _, hs, -⟩ := h.self
    exact blk_ne hb hs (by decide)
  have kb : 0 < cap → W.heap[bl]? = w.heap[bl]? := fun hc => hM.old bl (h.lt bl (hL.blk hc).1) (nbl hc)
  refine wpList_append_ptr hg s x hop hs hx (Came.keep hL.came kb hM.size) (fun hc => by obtain ⟨-, cs, hb⟩ := hL.blk hc; exact ⟨cs, (kb hc).trans hb⟩) hu rfl (by omega) ?_
  intro ao' bl' cap' W' hA
  have hg' : W'.heap[g]? = some (.cells #[.slice ao nn cap, .int .i64 nx] 91 (0, 0)) := (hA.step.block g (blk_lt hM.mem) fun ⟨hc, he⟩ => nbl hc he.symm).trans hM.mem
  obtain ⟨cb, sv, h1, h2, h3⟩ := hM.reg.self
  have hge := hM.new _ (.inl rfl)
  have he' := (hA.step.block e.b (blk_lt h1) fun ⟨hc, he⟩ => by have := h.lt bl (hL.blk hc).1; omega).trans h1
  refine hK ao' bl' cap' W' (Lib.hid hA) ((blk_cell hg' 0).trans rfl) (blk_frozen hg' 0) fun v => ?_
  exact (blk_cell (heap_setCell_old he' (by omega)) 0).trans rfl
end
end Go.Proofs.Ytpjgaacdohiomaa.MemCb
namespace Go.Proofs.Ytpjgaacdohiomaa.MemCp
open Go.RowKit Go.Proofs.Ytpjgaacdohiomaa.PMemCopies Go.Proofs.YtpjgaacdohiomaaW.PrintWords Go.Proofs.YtpjgaacdohiomaaW.PrintLast Go.Proofs.YtpjgaacdohiomaaW.PrintMore Go.Proofs.Ytpjgaacdohiomaa.Mw Go.Proofs.Ytpjgaacdohiomaa.Mem1 Go.Proofs.Ytpjgaacdohiomaa.Mem2 Go.Proofs.Ytpjgaacdohiomaa.Mem3 Go.Proofs.Ytpjgaacdohiomaa.Mem4 Go.Proofs.Ytpjgaacdohiomaa.Mem6 Go.Proofs.Ytpjgaacdohiomaa.MemA Go.Proofs.Ytpjgaacdohiomaa.MemB Go.Proofs.Ytpjgaacdohiomaa.Mem7 Go.Proofs.Ytpjgaacdohiomaa.MemQ Go.Proofs.Ytpjgaacdohiomaa.MemCb
set_option linter.unusedVariables false
set_option linter.unusedSimpArgs false
theorem row_of_came {w : World} {b t n cap : Nat} {vs : List Value} {ao : Option Addr} (hb : ∃ cs, w.heap[b]? = some (.cells cs t (0, 0))) (hc : Came w 1 ao b 0 n cap vs) : Row w b t vs := by
  obtain ⟨cs, hb⟩ := hb
  have ht : cs.toList.take vs.length = vs := by
    apply List.ext_getElem?
    intro j
    rw [List.getElem?_take]
    by_cases hj : j < vs.length
    · rw [if_pos hj]
      have h1 := hc.olds j vs[j] (List.getElem?_eq_getElem hj)
      rw [Nat.zero_add] at h1
      have h2 := (blk_cell hb j).symm.trans h1
      rw [Array.getElem?_toList, h2, List.getElem?_eq_getElem hj]
    · rw [if_neg hj, List.getElem?_eq_none (by omega)]
  exact ⟨cs.toList.drop vs.length, by rw [hb]; congr 2; apply Array.ext'; simp only [List.toList_toArray]; conv => rhs; lhs; rw [← ht]
                                      exact (List.take_append_drop _ _).symm⟩
theorem info4 : ∃ i, Try.prog.info? 4 = some i ∧ i.zero = some (.bool false) ∧ i.size = 1 ∧ i.bytes ≤ 64 := by
  obtain ⟨i1, hi1, hz1, hs1, hb1⟩ := info_parts (P := Try.prog) (e := 4) (z := .bool false) (size := 1) (bytes := 1) (by kernel_rfl)
  exact ⟨i1, hi1, hz1, hs1, by omega⟩
theorem append_none (w : World) (ty : TypeId) : (Builtin.append_ #[37, 37] ty #[.slice none 0 0, .slice none 0 0]).run Try.prog w = .ok (.slice none 0 0) w := by
  obtain ⟨i, hi, hz, hs, hb⟩ := info4
  simp [Builtin.append_, run_underlying Try.underlying37, sizeOf, typeInfo, hi, Builtin.lenOf, Builtin.firstCells, loadCells, loadCellsFrom]
/-- What the copy of the marks leaves. -/
structure SetD (W W' : World) (n : Nat) (v : Value) (gs : Nat) (set : Option (List Bool)) : Prop where
  below : Below W.heap.size W W'
  ge : set ≠ none → W.heap.size ≤ gs
  lt : set ≠ none → gs < W'.heap.size
  val : SetV W' (fun b => set ≠ none ∧ b = gs) gs n v set
theorem wpList_set {ops : Array Oper} {o : Oper} {rest : List Oper} {a : Act} {W : World} {Q : Exit → Act → World → Prop} {F : Nat → Prop} {gs n : Nat} {sv : Value} {set : Option (List Bool)}
    (hg : o.guard = none) (s x : Operand) (hop : o.op = Op.call { callee := Callee.builtin Builtin.append, args := #[s, x], argTypes := #[37, 37] })
    (hs : a.eval s = .slice none 0 0) (hx : a.eval x = sv) (hS : SetV W F gs n sv set) (hn : 0 < n ∧ n ≤ 65536)
    (hK : ∀ v' gs' W', Hid (SetD W W' n v' gs' set) → wpList Try.prog ops Q rest (a.put o.dst v') W') : wpList Try.prog ops Q (o :: rest) a W := by
  refine wpList_plain hg fun K hK' => ?_
  cases set with
  | none =>
    have hS : sv = .slice none 0 0 := hS
    subst hS
    have hrun := append_none W o.type
    unfold Oper.wp
    simp [execOp, hop, resolve, invoke, builtin, hs, hx, hrun, Result.andThen]
    exact hK' _ _ (hK _ 0 W (Lib.hid ⟨Below.refl _ _, fun h => absurd rfl h, fun h => absurd rfl h, rfl⟩))
  | some l =>
    obtain ⟨hl, hF, ⟨c, rfl, hc⟩, hr⟩ := hS
    have hsrc : Src Try.prog 1 37 (.slice (some ⟨gs, 0, none⟩) n c) n (l.map Value.bool) W := Src.ofSlice W Try.underlying37 _ n c _ (by rw [List.length_map, hl, Nat.mul_one]) (fun j u hj => by
      have hjl := (List.getElem?_eq_some_iff.1 hj).1
      rw [add_plain, hr.cell j hjl]
      rw [List.getElem?_eq_getElem hjl] at hj
      exact hj) (fun u hu => by obtain ⟨_, _, rfl⟩ := List.mem_map.1 hu; rfl)
    have hcame : Came W 1 none 0 0 0 0 [] := ⟨Nat.le_refl _, fun h => absurd h (by simp), fun h => absurd h (by simp), rfl, fun j u h => by simp at h, fun j h => by simp at h⟩
    obtain ⟨bl', cap', W', hrun, hA⟩ := append_grow hcame Try.underlying37 (.bool false) rfl info4 o.type _ n (l.map Value.bool) hsrc (by omega) (by omega)
    have hge : W.heap.size ≤ bl' := (hA.step.foot bl' rfl).elim (fun h => absurd h.1 (by simp)) id
    have hbel : Below W.heap.size W W' := ⟨hA.step.os, hA.step.tape, hA.step.output, hA.step.size, fun k hk => hA.step.block k hk (fun h => absurd h.1 (by simp))⟩
    rw [Nat.zero_add] at hrun
    have hrow : Row W' bl' 4 (l.map Value.bool) := by
      have := row_of_came hA.blk hA.came
      rwa [List.nil_append] at this
    unfold Oper.wp
    simp [execOp, hop, resolve, invoke, builtin, hs, hx, hrun, Result.andThen]
    exact hK' _ _ (hK _ bl' W' (Lib.hid ⟨hbel, fun _ => hge, fun _ => hrow.lt, hl, ⟨by simp, rfl⟩, ⟨cap', rfl, by have := hA.came.le; omega⟩, hrow⟩))
theorem SetV.keep' {w w' : World} {F F' : Nat → Prop} {gs n : Nat} {v : Value} {s : Option (List Bool)} (h : SetV w F gs n v s) (hk : s ≠ none → w'.heap[gs]? = w.heap[gs]?) (hF : ∀ b, F b → F' b) : SetV w' F' gs n v s := by
  cases s with
  | none => exact h
  | some s => exact ⟨h.1, hF _ h.2.1, h.2.2.1, h.2.2.2.keep (hk (by simp))⟩
theorem setV_slice {w : World} {F : Nat → Prop} {gs n : Nat} {v : Value} {s : Option (List Bool)} (h : SetV w F gs n v s) : ∃ so sn sc, v = .slice so sn sc := by
  cases s with
  | none => exact ⟨_, _, _, h⟩
  | some s => obtain ⟨_, _, ⟨c, rfl, _⟩, _⟩ := h; exact ⟨_, _, _, rfl⟩
section
variable {w : World} {F : Nat → Prop} {g : Nat} {es : List Ent} {nx : Int}
theorem copy_start (w : World) (hx : 0 ≤ nx) : MQ (w.alloc (.cells #[.slice none 0 0, .int .i64 nx] 91)) (fun b => b = w.heap.size) w.heap.size [] nx := by
  refine ⟨[], rfl, ⟨⟨none, 0, 0, heap_alloc_new w _, ⟨⟨Nat.le_refl _, fun h => absurd h (by simp), fun h => absurd h (by simp), rfl, fun j u h => by simp at h, fun j h => by simp at h⟩, fun h => absurd h (by simp)⟩⟩, fun i e he => by simp at he, fun i j e e' he => by simp at he, rfl, fun b hb => by subst hb; simp, fun i e he => by simp at he, fun i j e e' he => by simp at he, fun i j e e' he => by simp at he, hx, by simp⟩⟩
/-- The copy's region, ahead of the append. -/
theorem midC {wr w2 W3 : World} {go : Nat} {ao : Option Addr} {nn cap cb b' c' gs' : Nat} {nx : Int} {r : Rg} {sv v' : Value}
    (hmem : wr.heap[go]? = some (.cells #[.slice ao nn cap, .int .i64 nx] 91 (0, 0))) (hok : r.Ok) (hcb : r.bytes.length ≤ c')
    (hB2 : Below (wr.alloc (.cells #[.int .i64 r.id, .int .u64 r.base, .int .i64 r.perm, .slice (some ⟨cb, 0, none⟩) r.bytes.length c', sv] 94)).heap.size (wr.alloc (.cells #[.int .i64 r.id, .int .u64 r.base, .int .i64 r.perm, .slice (some ⟨cb, 0, none⟩) r.bytes.length c', sv] 94)) w2)
    {c2 : Nat} (hc2 : r.bytes.length ≤ c2) (hge : (wr.alloc (.cells #[.int .i64 r.id, .int .u64 r.base, .int .i64 r.perm, .slice (some ⟨cb, 0, none⟩) r.bytes.length c', sv] 94)).heap.size ≤ b') (hrow : Row w2 b' 5 (r.bytes.map (Value.int .u8)))
    (hS : SetD (w2.setCell ⟨wr.heap.size, 3, none⟩ (.slice (some ⟨b', 0, none⟩) r.bytes.length c2)) W3 r.bytes.length v' gs' r.set) (u : Value) :
    MidC wr ((W3.setCell ⟨wr.heap.size, 4, none⟩ v').alloc (.cells #[u] 92)) go ao nn cap nx ⟨wr.heap.size, b', gs', r⟩ := by
  have hgl := blk_lt hmem
  have s1 : (wr.alloc (.cells #[.int .i64 r.id, .int .u64 r.base, .int .i64 r.perm, .slice (some ⟨cb, 0, none⟩) r.bytes.length c', sv] 94)).heap.size = wr.heap.size + 1 := by simp
  have h0 := heap_alloc_new wr (.cells #[.int .i64 r.id, .int .u64 r.base, .int .i64 r.perm, .slice (some ⟨cb, 0, none⟩) r.bytes.length c', sv] 94)
  have k0 : ∀ b, b < wr.heap.size → _ := Below.heap_alloc wr (.cells #[.int .i64 r.id, .int .u64 r.base, .int .i64 r.perm, .slice (some ⟨cb, 0, none⟩) r.bytes.length c', sv] 94)
  have o1 : (wr.alloc (.cells #[.int .i64 r.id, .int .u64 r.base, .int .i64 r.perm, .slice (some ⟨cb, 0, none⟩) r.bytes.length c', sv] 94)).os = wr.os ∧ (wr.alloc (.cells #[.int .i64 r.id, .int .u64 r.base, .int .i64 r.perm, .slice (some ⟨cb, 0, none⟩) r.bytes.length c', sv] 94)).tape = wr.tape ∧ (wr.alloc (.cells #[.int .i64 r.id, .int .u64 r.base, .int .i64 r.perm, .slice (some ⟨cb, 0, none⟩) r.bytes.length c', sv] 94)).output = wr.output := ⟨rfl, rfl, rfl⟩
  generalize wr.alloc (.cells #[.int .i64 r.id, .int .u64 r.base, .int .i64 r.perm, .slice (some ⟨cb, 0, none⟩) r.bytes.length c', sv] 94) = w1 at *
  have z2 := hB2.size
  have h2 := (hB2.block wr.heap.size (by omega)).trans h0
  have h3 := MemB.heap_setCell_at (i := 3) (v := .slice (some ⟨b', 0, none⟩) r.bytes.length c2) h2
  have k3 : ∀ b, b ≠ wr.heap.size → _ := fun b hb => Below.heap_setCell w2 ⟨wr.heap.size, 3, none⟩ (.slice (some ⟨b', 0, none⟩) r.bytes.length c2) b hb
  have z3 : (w2.setCell ⟨wr.heap.size, 3, none⟩ (.slice (some ⟨b', 0, none⟩) r.bytes.length c2)).heap.size = w2.heap.size := by simp [World.setCell]
  have o3 : (w2.setCell ⟨wr.heap.size, 3, none⟩ (.slice (some ⟨b', 0, none⟩) r.bytes.length c2)).os = w2.os ∧ (w2.setCell ⟨wr.heap.size, 3, none⟩ (.slice (some ⟨b', 0, none⟩) r.bytes.length c2)).tape = w2.tape ∧ (w2.setCell ⟨wr.heap.size, 3, none⟩ (.slice (some ⟨b', 0, none⟩) r.bytes.length c2)).output = w2.output := ⟨rfl, rfl, rfl⟩
  generalize w2.setCell ⟨wr.heap.size, 3, none⟩ (.slice (some ⟨b', 0, none⟩) r.bytes.length c2) = W2 at *
  have z4 := hS.below.size
  have h4 := (hS.below.block wr.heap.size (by omega)).trans h3
  have h5 := MemB.heap_setCell_at (i := 4) (v := v') h4
  have z5 : (W3.setCell ⟨wr.heap.size, 4, none⟩ v').heap.size = W3.heap.size := by simp [World.setCell]
  have hb'lt := hrow.lt
  have keep : ∀ b, b < w2.heap.size → b ≠ wr.heap.size → ((W3.setCell ⟨wr.heap.size, 4, none⟩ v').alloc (.cells #[u] 92)).heap[b]? = w2.heap[b]? := fun b h1 h2 => by
    rw [Below.heap_alloc _ _ b (by omega), Below.heap_setCell W3 ⟨wr.heap.size, 4, none⟩ _ b h2, hS.below.block b (by omega), k3 b h2]
  refine ⟨hS.below.os.trans (o3.1.trans (hB2.os.trans o1.1)), hS.below.tape.trans (o3.2.1.trans (hB2.tape.trans o1.2.1)), hS.below.output.trans (o3.2.2.trans (hB2.output.trans o1.2.2)), fun b hb hn => ?_, by simp; omega, ?_, ?_, ?_, ⟨⟨c2, v', ?_, hc2, ?_⟩, ?_, ⟨.inl rfl, .inr (.inl rfl)⟩, hok⟩⟩
  · rw [keep b (by omega) (by omega), hB2.block b (by omega), k0 b hb]
  · rw [keep go (by omega) (by omega), hB2.block go (by omega), k0 go hgl]; exact hmem
  · rintro b (rfl | rfl | ⟨h, rfl⟩)
    · exact Nat.le_refl _
    · show wr.heap.size ≤ _; omega
    · have := hS.ge h; show wr.heap.size ≤ _; omega
  · rintro b (rfl | rfl | ⟨h, rfl⟩)
    · simp; omega
    · simp; omega
    · have := hS.lt h; simp; omega
  · exact MemB.heap_alloc_old h5
  · refine SetV.keep' hS.val (fun hs => ?_) (fun b hb => .inr (.inr ⟨hb.1, hb.2⟩))
    have g1 := hS.ge hs
    have g2 := hS.lt hs
    rw [Below.heap_alloc _ _ gs' (by omega), Below.heap_setCell W3 ⟨wr.heap.size, 4, none⟩ _ gs' (by simp only; omega)]
  · exact hrow.keep (keep b' hb'lt (by omega))
def CopS (w wr : World) (go : Nat) (rs : List Rg) (k : Nat) (nx : Int) : Prop := ∃ F', MQ wr F' go (rs.take k) nx ∧ (∀ b, F' b → w.heap.size ≤ b) ∧ Below w.heap.size w wr
set_option maxRecDepth 100000 in
set_option maxHeartbeats 8000000 in
theorem Copy_go (h : MIx w F g es nx) :
    Calls Try.prog 25 #[.pointer (some ⟨g, 0, none⟩)] w fun x w' => ∃ go, x = .returned (.pointer (some ⟨go, 0, none⟩)) ∧ CopS w w' go (es.map (·.r)) es.length nx := by
  obtain ⟨ao, bl, cap, g0, g1, gf, hc, hL⟩ := h.cells
  have hlen := h.len
  have hx0 := h.nx0
  have HL := Lib.hid hL
  have H := Lib.hid h
  obtain ⟨nn, hnn⟩ : ∃ nn, nn = es.length := ⟨_, rfl⟩
  have HN := Lib.hid hnn
  rw [← hnn] at g0 hc hlen ⊢
  have HS0 : Hid (CopS w (w.alloc (.cells #[.slice none 0 0, .int .i64 nx] 91)) w.heap.size (es.map (·.r)) 0 nx) := Lib.hid ⟨_, copy_start w hx0, fun b hb => by rw [hb]; exact Nat.le_refl _, below_alloc (Below.refl _ _) _⟩
  have g0a : ∀ o, (w.alloc o).cell? ⟨g, 0, none⟩ = some (.slice ao nn cap) := fun o => old (below_alloc (Below.refl _ _) o) g0
  obtain ⟨go, hgo⟩ : ∃ go, go = w.heap.size := ⟨_, rfl⟩
  rw [← hgo] at HS0
  clear h gf hL hnn hx0
  go_enter Try.func25, Try.ntmps25
  go_wp2
  rw [← hgo]
  have HGO := Lib.hid hgo
  clear hgo g0 g1 g0a
  go_loopw [20] (fun i wr => ∃ k : Nat, k ≤ nn ∧ i = .int .i64 (k : Int) ∧ Hid (CopS w wr go (es.map (·.r)) k nx)) (fun i _ => nn - (intOf i).toNat)
  case atStart => exact ⟨0, Nat.zero_le _, rfl, HS0⟩
  case round =>
    clear HS0
    obtain ⟨k, hk, rfl, HS⟩ := hrel
    by_cases hlt : k < nn
    · obtain ⟨e, hi⟩ : ∃ e, es[k]? = some e := ⟨_, List.getElem?_eq_getElem (by rw [← HN.out]; exact hlt)⟩
      obtain ⟨F', ⟨es', he', hM⟩, hF, hB⟩ := HS.out
      have HB := Lib.hid hB; have HF := Lib.hid hF; have HM := Lib.hid hM; have HE := Lib.hid he'
      obtain ⟨rfl, ge⟩ := HL.out.at_ hi
      have hR := H.out.regs k e hi
      obtain ⟨cb, sv, r0, r1, r2, r3, r4, hcb, hsv⟩ := hR.cells
      obtain ⟨so, sn, sc, rfl⟩ : ∃ so sn sc, sv = .slice so sn sc := by
        cases hset : e.r.set with
        | none => rw [hset] at hsv; exact ⟨_, _, _, hsv⟩
        | some s => rw [hset] at hsv; obtain ⟨_, _, ⟨c, rfl, _⟩, _⟩ := hsv; exact ⟨_, _, _, rfl⟩
      have HSV := Lib.hid (hsv.keep (w' := wr) (F' := F) (fun hf => hB.block _ (H.out.lt _ hf)) (fun _ h => h))
      have ge := old hB ge
      have r0 := old hB r0
      have r1 := old hB r1
      have r2 := old hB r2
      have r3 := old hB r3
      have r4 := old hB r4
      have HR := Lib.hid hR
      have hlt2 : e.b < wr.heap.size := Nat.lt_of_lt_of_le (H.out.lt _ hR.inF.1) hB.size
      have ra : ∀ o i, (wr.alloc o).cell? ⟨e.b, i, none⟩ = wr.cell? ⟨e.b, i, none⟩ := fun o i => World.cell?_alloc_old _ _ _ (Nat.ne_of_lt hlt2)
      have r3a : ∀ o, (wr.alloc o).cell? ⟨e.b, 3, none⟩ = some (.slice (some ⟨e.gb, 0, none⟩) e.r.bytes.length cb) := fun o => (ra o 3).trans r3
      have HI := Lib.hid hi
      have hlen3 := hR.ok.len
      have HCL := Lib.hid (fun o => clone_ (w := wr.alloc o) (hR.row.keep ((Below.heap_alloc wr o _ (Nat.lt_of_lt_of_le (H.out.lt _ hR.inF.2) hB.size)).trans (hB.block _ (H.out.lt _ hR.inF.2)))) 0 e.r.bytes.length cb (by omega) (by omega))
      have HRA := Lib.hid ra
      clear hM hB hF he' hsv hR hi ra HS
      obtain ⟨ao1, bl1, cap1, q0, q1, qf, qc, qL⟩ := HM.out.cells
      have hlk : es'.length = k := by
        have := congrArg List.length HE.out
        rw [List.length_map, List.length_take, List.length_map, ← HN.out] at this
        omega
      rw [hlk] at q0 qc qL
      have hmem : wr.heap[go]? = some (.cells #[.slice ao1 k cap1, .int .i64 nx] 91 (0, 0)) := by
        obtain ⟨_, _, _, hs, -⟩ := HM.out.self
        have e0 := blk_cell hs 0
        rw [q0] at e0
        have e0 := Option.some.inj e0
        rw [e0]; exact hs
      have HMEM := Lib.hid hmem
      have HQL := Lib.hid qL
      have hgl : go < wr.heap.size := blk_lt hmem
      clear q1 qf qc qL
      go_wp2_with fail
      refine (HCL.out _).mono ?_
      rintro x w2 ⟨b', c', rfl, h1, h2, h3, h4⟩
      rw [List.drop_zero, List.take_length] at h3
      have hz : (wr.alloc (.cells #[.int .i64 e.r.id, .int .u64 e.r.base, .int .i64 e.r.perm, .slice (some ⟨e.gb, 0, none⟩) e.r.bytes.length cb, .slice so sn sc] 94)).heap.size = wr.heap.size + 1 := by simp
      have H2 := (h4.block wr.heap.size (by omega)).trans (heap_alloc_new wr _)
      have c3 : ∃ u, w2.cell? ⟨wr.heap.size, 3, none⟩ = some u := ⟨_, (blk_cell H2 3).trans rfl⟩
      have f3 := blk_frozen H2 3
      have e4 : ∀ v, (w2.setCell ⟨wr.heap.size, 3, none⟩ v).cell? ⟨e.b, 4, none⟩ = some (.slice so sn sc) := fun v => by
        rw [World.cell?_setCell_other _ _ _ _ (fun e1 => by have := congrArg Addr.block e1; simp only at this; omega)]
        exact old h4 ((HRA.out _ 4).trans r4)
      have HSV2 : Hid (∀ v, SetV (w2.setCell ⟨wr.heap.size, 3, none⟩ v) F e.gs e.r.bytes.length (.slice so sn sc) e.r.set) := Lib.hid fun v => HSV.out.keep (fun hf => by
        have hl := Nat.lt_of_lt_of_le (H.out.lt _ hf) HB.out.size
        rw [Below.heap_setCell w2 ⟨wr.heap.size, 3, none⟩ v e.gs (by simp only; omega), h4.block e.gs (by omega), Below.heap_alloc wr _ e.gs hl]) (fun _ h => h)
      have h3t := fun v => MemB.heap_setCell_at (i := 3) (v := v) H2
      have hgo2 : w2.heap[go]? = wr.heap[go]? := (h4.block go (by omega)).trans (Below.heap_alloc wr _ go hgl)
      have HCB := Lib.hid (And.intro h1 (And.intro h2 (And.intro h3 h4)))
      obtain ⟨u3, c3⟩ := c3
      clear h1 h2 h3 h4 HCL HSV r3a
      go_wp2_with (at_builtin; refine Stand.out ?_)
      refine ⟨?_⟩
      refine wpList_set (F := F) rfl _ _ rfl rfl rfl (HSV2.out _) hlen3 ?_
      intro v' gs' W3 HSD
      obtain ⟨so2, sn2, sc2, rfl⟩ := setV_slice HSD.out.val
      have z3 : (w2.setCell ⟨wr.heap.size, 3, none⟩ (.slice (some ⟨b', 0, none⟩) e.r.bytes.length c')).heap.size = w2.heap.size := by simp [World.setCell]
      have hw2 := HCB.out.2.2.2.size
      have H3 := (HSD.out.below.block wr.heap.size (by omega)).trans (h3t _)
      have c4 : ∃ u, W3.cell? ⟨wr.heap.size, 4, none⟩ = some u := ⟨_, (blk_cell H3 4).trans rfl⟩
      have f4 := blk_frozen H3 4
      have hg3 : ∀ v, (W3.setCell ⟨wr.heap.size, 4, none⟩ v).cell? ⟨go, 0, none⟩ = some (.slice ao1 k cap1) := fun v => by
        rw [World.cell?_setCell_other _ _ _ _ (fun e1 => by have := congrArg Addr.block e1; simp only at this; omega)]
        refine (World.cell?_of_block (w := wr) ?_).trans q0
        show W3.heap[go]? = wr.heap[go]?
        rw [HSD.out.below.block go (by omega), Below.heap_setCell w2 ⟨wr.heap.size, 3, none⟩ _ go (by simp only; omega), hgo2]
      have HMID := Lib.hid (midC HMEM.out HR.out.ok hcb HCB.out.2.2.2 HCB.out.1 HCB.out.2.1 HCB.out.2.2.1 HSD.out (.pointer (some ⟨wr.heap.size, 0, none⟩)))
      obtain ⟨u4, c4⟩ := c4
      clear h3t HSV2 e4 c3 f3 hgo2 z3 hw2 H3 H2 q0
      go_wp2_with (at_builtin; refine Stand.out ?_)
      refine ⟨?_⟩
      have hu : ((W3.setCell ⟨wr.heap.size, 4, none⟩ (.slice so2 sn2 sc2)).alloc (.cells #[.pointer (some ⟨wr.heap.size, 0, none⟩)] 92)).cell? ⟨W3.heap.size, 0, none⟩ = some (.pointer (some ⟨wr.heap.size, 0, none⟩)) := by
        have := World.cell?_alloc_new (W3.setCell ⟨wr.heap.size, 4, none⟩ (.slice so2 sn2 sc2)) #[.pointer (some ⟨wr.heap.size, 0, none⟩)] 92 0
        simpa [World.setCell] using this
      have hlk4 : k < 4096 := by omega
      refine wpList_copy (bl := bl1) HMID.out HM.out (by rw [hlk] at *; exact HQL.out) hlk4 hu rfl _ _ rfl rfl rfl ?_
      intro ao' bl' cap' W' HAP hA1 hA2 hA3
      clear hA3 hu
      go_wp2
      case roundEnd =>
        have hold : ∀ e'' ∈ es', ∃ (j : Nat) (e0 : Ent), j < k ∧ es[j]? = some e0 ∧ e''.r = e0.r := fun e'' he'' => by
          obtain ⟨j, hj⟩ := List.mem_iff_getElem?.1 he''
          have h1 : (es'.map (·.r))[j]? = some e''.r := by rw [List.getElem?_map, hj]; rfl
          have hjk : j < k := by have := (List.getElem?_eq_some_iff.1 hj).1; omega
          rw [HE.out, List.getElem?_take_of_lt hjk, List.getElem?_map] at h1
          obtain ⟨e0, h2, h3⟩ := Option.map_eq_some_iff.1 h1
          exact ⟨j, e0, hjk, h2, h3.symm⟩
        have hge : wr.heap.size + 1 ≤ b' := by have := HCB.out.2.1; simp at this; omega
        obtain ⟨d1, d2⟩ := copy_done (bl := bl1) HM.out HQL.out hlk.symm HMID.out HAP.out (H.out.ids k e HI.out) (fun e'' he'' => by
            obtain ⟨j, e0, hj, h2, h3⟩ := hold e'' he''
            rw [h3]
            exact H.out.idn j k e0 e h2 HI.out hj) (fun e'' he'' => by
            obtain ⟨j, e0, hj, h2, h3⟩ := hold e'' he''
            rw [h3]
            exact H.out.dis j k e0 e h2 HI.out (by omega)) (by show wr.heap.size ≠ b'; omega) hlk4
        refine ⟨⟨k + 1, by omega, by go_num, Lib.hid ⟨_, ⟨_, ?_, d1⟩, d2.low HB.out.size HF.out, d2.below HB.out HF.out⟩⟩, by simp [intOf]; omega⟩
        rw [List.map_append, HE.out, List.take_add_one, List.getElem?_map, HI.out]
        rfl
    · have HFIN := Lib.hid (show CopS w wr go (es.map (·.r)) nn nx by
        obtain rfl : k = nn := by omega
        exact HS.out)
      go_wp2
      go_ret
      exact ⟨go, rfl, HFIN.out⟩
theorem q_copy {rs : List Rg} (h : MQ w F g rs nx) :
    Calls Try.prog 25 #[.pointer (some ⟨g, 0, none⟩)] w fun x w' => ∃ F' go, x = .returned (.pointer (some ⟨go, 0, none⟩)) ∧ MQ w' F' go rs nx ∧ (∀ b, F' b → w.heap.size ≤ b) ∧ Below w.heap.size w w' := by
  obtain ⟨es, rfl, h⟩ := h
  refine (Copy_go h).mono fun x w' ⟨go, e1, F', e2, e3, e4⟩ => ⟨F', go, e1, ?_, e3, e4⟩
  rwa [List.take_of_length_le (by rw [List.length_map]; exact Nat.le_refl _)] at e2
end
end Go.Proofs.Ytpjgaacdohiomaa.MemCp
namespace Go.Proofs.Ytpjgaacdohiomaa.MemCq
open Go.RowKit Go.Proofs.Ytpjgaacdohiomaa.PMemCopies Go.Proofs.YtpjgaacdohiomaaW.PrintWords Go.Proofs.YtpjgaacdohiomaaW.PrintLast Go.Proofs.YtpjgaacdohiomaaW.PrintMore Go.Proofs.Ytpjgaacdohiomaa.Mw Go.Proofs.Ytpjgaacdohiomaa.Mem1 Go.Proofs.Ytpjgaacdohiomaa.Mem3 Go.Proofs.Ytpjgaacdohiomaa.Mem7 Go.Proofs.Ytpjgaacdohiomaa.MemA Go.Proofs.Ytpjgaacdohiomaa.MemB Go.Proofs.Ytpjgaacdohiomaa.MemQ Go.Proofs.Ytpjgaacdohiomaa.MemRA Go.Proofs.Ytpjgaacdohiomaa.MemRB Go.Proofs.Ytpjgaacdohiomaa.MemRC Go.Proofs.Ytpjgaacdohiomaa.MemRD Go.Proofs.Ytpjgaacdohiomaa.MemRN Go.Proofs.Ytpjgaacdohiomaa.MemRG Go.Proofs.Ytpjgaacdohiomaa.MemCp
set_option linter.unusedVariables false
set_option linter.unusedSimpArgs false
/-- A new region's blocks, whatever it holds. -/
structure NewE (w W : World) (rb : Nat) (e : DE) : Prop where
  below : Below w.heap.size w W
  ge : w.heap.size ≤ rb ∧ w.heap.size ≤ e.gb ∧ w.heap.size ≤ e.gs
  self : W.heap[rb]? = some (.cells #[.bool e.r.live, .int .u64 e.r.base, .int .i64 e.r.perm, .slice (some ⟨e.gb, 0, none⟩) e.r.bytes.length e.cb, .slice (some ⟨e.gs, 0, none⟩) e.r.bytes.length e.cs] 59 (0, 0))
  row : Row W e.gb 5 (e.r.bytes.map (Value.int .u8))
  srow : Row W e.gs 4 (e.r.set.map Value.bool)
section
variable {w W : World} {F : Nat → Prop} {g : Nat} {ds : List DE} {rb : Nat} {ao : Option Addr} {nn cap : Nat} {e : DE}
theorem step_addE {ops : Array Oper} {o : Oper} {a : Act} {K : Act → World → Prop} {Q : Exit → Act → World → Prop}
    (h : DIx w F g ds) (hn : nn = ds.length) (hl : nn ≤ 100000) (g0 : w.cell? ⟨g, 0, none⟩ = some (.slice ao nn cap)) (hM : NewE w W rb e)
    (hg : o.guard = none) (s x : Operand) (hop : o.op = Op.call { callee := Callee.builtin Builtin.append, args := #[s, x], argTypes := #[50, 50] })
    (hs : a.eval s = .slice ao nn cap) {sz : Nat} (hx : a.eval x = .slice (some ⟨sz, 0, none⟩) 1 1) (hsz : sz = W.heap.size)
    (hK : ∀ bl' cap' W', Hid (AppR W W' ao nn cap ds e bl' cap') → W'.cell? ⟨g, 0, none⟩ = some (.slice ao nn cap) → W'.frozen? ⟨g, 0, none⟩ = false → K (a.put o.dst (.slice (some ⟨bl', 0, none⟩) (nn + 1) cap')) W') :
    if Region.wanted o (yielded ops a.tmps) = true then Oper.wp Try.prog o a (W.drew.alloc (.cells #[.bool e.r.live, .int .u64 e.r.base, .int .i64 e.r.perm, .slice (some ⟨e.gb, 0, none⟩) e.r.bytes.length e.cb, .slice (some ⟨e.gs, 0, none⟩) e.r.bytes.length e.cs] 59)) K Q else K (a.put o.dst undef) (W.drew.alloc (.cells #[.bool e.r.live, .int .u64 e.r.base, .int .i64 e.r.perm, .slice (some ⟨e.gb, 0, none⟩) e.r.bytes.length e.cb, .slice (some ⟨e.gs, 0, none⟩) e.r.bytes.length e.cs] 59)) := by
  subst hsz
  obtain ⟨hself, hall⟩ := own_slot h hn g0
  have hown : W.drew.ownsRow 0 59 5 (.slice ao nn cap) nn (ds.flatMap cells5) := by
    have := hall.1
    rw [← hn] at this
    exact own_move this (fun k hk => hM.below.block k (h.lt k (hall.2 k hk)))
  have hgl := h.lt g h.inF
  have hgW := (hM.below.block g hgl).trans hself
  refine step_append_cells (P := Try.prog) (w0 := W.drew) (W := W.drew) (ys := [.bool e.r.live, .int .u64 e.r.base, .int .i64 e.r.perm, .slice (some ⟨e.gb, 0, none⟩) e.r.bytes.length e.cb, .slice (some ⟨e.gs, 0, none⟩) e.r.bytes.length e.cs]) 0 (by simp [Region.wanted, hg]) s x 50 59 _ 5 72 hop Try.underlying50 info59 rfl (by decide) (by decide) (.slice ao nn cap) nn (ds.flatMap cells5) hs hx rfl (by intro u hu; simp only [List.mem_cons, List.not_mem_nil, or_false] at hu; rcases hu with rfl | rfl | rfl | rfl | rfl <;> rfl) hown (Below.refl _ _) (Nat.zero_le _) (by omega) ?_
  intro v1 w1 ho1 hb1 hg1 hat
  rcases ho1.2 with ⟨_, h0⟩ | ⟨bl', cap', cur, rfl, _⟩
  · omega
  · have hng : some g ≠ (Value.slice ao nn cap).ownBlock := fun e1 => by
      obtain ⟨_, ht⟩ := own_typed hown g e1.symm
      exact blk_ne hgW ht (by decide) rfl
    have hg' := (hg1.block g (blk_lt hgW) hng).trans hgW
    refine hK bl' cap' w1 (Lib.hid ⟨ho1, ⟨hg1.os, hg1.tape, hg1.output, hg1.size, hg1.block⟩, ?_⟩) ((blk_cell hg' 0).trans rfl) (blk_frozen hg' 0)
    rcases hat with hat | ⟨b2, e2, h2⟩
    · exact .inl hat
    · exact .inr (by cases e2; exact h2)
theorem add_doneE (h : DIx w F g ds) (hn : nn = ds.length) (hl : nn < 100000) (g0 : w.cell? ⟨g, 0, none⟩ = some (.slice ao nn cap)) (hM : NewE w W rb e) (hok : e.r.Ok) (hcb : e.r.bytes.length ≤ e.cb ∧ e.r.bytes.length ≤ e.cs)
    {W' : World} {bl' cap' : Nat} (hA : AppR W W' ao nn cap ds e bl' cap') :
    ∃ F', DIx (W'.setCell ⟨g, 0, none⟩ (.slice (some ⟨bl', 0, none⟩) (nn + 1 : Nat) cap')) F' g (ds ++ [e]) ∧ Step w (W'.setCell ⟨g, 0, none⟩ (.slice (some ⟨bl', 0, none⟩) (nn + 1 : Nat) cap')) F F' := by
  obtain ⟨hself, hall⟩ := own_slot h hn g0
  have hgl := h.lt g h.inF
  have hgW := (hM.below.block g hgl).trans hself
  have hown : W.ownsRow 0 59 5 (.slice ao nn cap) nn (ds.flatMap cells5) := by
    have := hall.1
    rw [← hn] at this
    exact own_move this (fun k hk => hM.below.block k (h.lt k (hall.2 k hk)))
  -- what is not the slice's old block stays
  have hkW : ∀ k, k < W.heap.size → some k ≠ (Value.slice ao nn cap).ownBlock → k ≠ g → (W'.setCell ⟨g, 0, none⟩ (.slice (some ⟨bl', 0, none⟩) (nn + 1 : Nat) cap')).heap[k]? = W.heap[k]? := fun k h1 h2 h3 => (Below.heap_setCell W' ⟨g, 0, none⟩ _ k h3).trans (hA.grown.block k h1 h2)
  have hng : some g ≠ (Value.slice ao nn cap).ownBlock := fun e1 => by
    obtain ⟨_, ht⟩ := own_typed hown g e1.symm
    exact blk_ne hgW ht (by decide) rfl
  have hg' := (hA.grown.block g (blk_lt hgW) hng).trans hgW
  have hgg := MemB.heap_setCell_at (i := 0) (v := .slice (some ⟨bl', 0, none⟩) (nn + 1 : Nat) cap') hg'
  obtain ⟨cur', hbl'⟩ := own_typed hA.own bl' rfl
  have hne : bl' ≠ g := blk_ne hbl' hg' (by decide)
  have hbF : ∀ k, (Value.slice ao nn cap).ownBlock = some k → F k := hall.2
  have hsz : (W'.setCell ⟨g, 0, none⟩ (.slice (some ⟨bl', 0, none⟩) (nn + 1 : Nat) cap')).heap.size = W'.heap.size := by simp [World.setCell]
  have s1 := hM.below.size
  have s2 := hA.grown.size
  have hold : ∀ k, k < w.heap.size → some k ≠ (Value.slice ao nn cap).ownBlock → k ≠ g → (W'.setCell ⟨g, 0, none⟩ (.slice (some ⟨bl', 0, none⟩) (nn + 1 : Nat) cap')).heap[k]? = w.heap[k]? := fun k h1 h2 h3 => (hkW k (by omega) h2 h3).trans (hM.below.block k h1)
  have hnew : ∀ k t cs, W.heap[k]? = some (Obj.cells cs t (0, 0)) → t ≠ 59 → t ≠ 52 → (W'.setCell ⟨g, 0, none⟩ (.slice (some ⟨bl', 0, none⟩) (nn + 1 : Nat) cap')).heap[k]? = W.heap[k]? := fun k t cs hk h1 h2 => by
    refine hkW k (blk_lt hk) (fun e1 => ?_) (blk_ne hk hgW h2)
    obtain ⟨_, ht⟩ := own_typed hown k e1.symm
    exact blk_ne hk ht h1 rfl
  refine ⟨fun b => F b ∨ b = e.gb ∨ b = e.gs ∨ b = bl', ⟨⟨_, hgg, ?_, ?_⟩, ?_, ?_, .inl h.inF, ?_, by rw [List.length_append, ← hn]; simp; omega⟩, ?_⟩
  · rw [List.length_append, ← hn, List.flatMap_append]
    have : ([e] : List DE).flatMap cells5 = cells5 e := by simp
    rw [this]
    refine own_move hA.own (fun k hk => ?_)
    cases hk
    exact Below.heap_setCell W' ⟨g, 0, none⟩ _ bl' hne
  · intro k hk
    cases hk
    exact .inr (.inr (.inr rfl))
  · intro i e' hi
    by_cases hl2 : i < ds.length
    · rw [List.getElem?_append_left hl2] at hi
      have hR := h.regs i e' hi
      obtain ⟨⟨_, t1⟩, ⟨_, t2⟩⟩ := hR.typ
      have k1 := hM.below.block _ (blk_lt t1)
      have k2 := hM.below.block _ (blk_lt t2)
      exact ⟨hR.row.keep ((hnew _ 5 _ (k1.trans t1) (by decide) (by decide)).trans k1), hR.srow.keep ((hnew _ 4 _ (k2.trans t2) (by decide) (by decide)).trans k2), ⟨.inl hR.inF.1, .inl hR.inF.2⟩, hR.caps, hR.ok⟩
    · have := (List.getElem?_eq_some_iff.1 hi).1
      rw [List.length_append, List.length_singleton] at this
      obtain rfl : i = ds.length := by omega
      rw [List.getElem?_append_right (Nat.le_refl _), Nat.sub_self] at hi
      obtain rfl : e = e' := by simpa using hi
      obtain ⟨_, r1⟩ := hM.row
      obtain ⟨_, r2⟩ := hM.srow
      exact ⟨hM.row.keep (hnew _ 5 _ r1 (by decide) (by decide)), hM.srow.keep (hnew _ 4 _ r2 (by decide) (by decide)), ⟨.inr (.inl rfl), .inr (.inr (.inl rfl))⟩, hcb, hok⟩
  · have lowE : ∀ (i : Nat) (e' : DE), ds[i]? = some e' → e'.gb < w.heap.size ∧ e'.gs < w.heap.size := fun i e' hi => ⟨h.lt _ (h.regs i e' hi).inF.1, h.lt _ (h.regs i e' hi).inF.2⟩
    have get : ∀ (i : Nat) (e' : DE), (ds ++ [e])[i]? = some e' → (i < ds.length ∧ ds[i]? = some e') ∨ (i = ds.length ∧ e' = e) := fun i e' hi => by
      by_cases hl2 : i < ds.length
      · rw [List.getElem?_append_left hl2] at hi; exact .inl ⟨hl2, hi⟩
      · have := (List.getElem?_eq_some_iff.1 hi).1
        rw [List.length_append, List.length_singleton] at this
        obtain rfl : i = ds.length := by omega
        rw [List.getElem?_append_right (Nat.le_refl _), Nat.sub_self] at hi
        exact .inr ⟨rfl, by simpa using hi.symm⟩
    obtain ⟨-, ge1, ge2⟩ := hM.ge
    intro i j e1 e2 h1 h2 hij
    rcases get i e1 h1 with ⟨a1, b1⟩ | ⟨a1, rfl⟩ <;> rcases get j e2 h2 with ⟨a2, b2⟩ | ⟨a2, rfl⟩
    · exact h.apart i j e1 e2 b1 b2 hij
    · obtain ⟨l1, l2⟩ := lowE i e1 b1; exact ⟨by omega, by omega⟩
    · obtain ⟨l1, l2⟩ := lowE j e2 b2; exact ⟨by omega, by omega⟩
    · omega
  · intro k hk
    rw [hsz]
    obtain ⟨_, r1⟩ := hM.row
    obtain ⟨_, r2⟩ := hM.srow
    rcases hk with hk | rfl | rfl | rfl
    · have := h.lt k hk; omega
    · have := blk_lt r1; omega
    · have := blk_lt r2; omega
    · exact blk_lt hbl'
  · refine ⟨hA.grown.os.trans hM.below.os, hA.grown.tape.trans hM.below.tape, hA.grown.output.trans hM.below.output, by rw [hsz]; omega, fun k hk hF => hold k hk (fun e1 => hF (hbF k e1.symm)) (fun e1 => hF (e1 ▸ h.inF)), fun k hk => ?_⟩
    rcases hk with hk | rfl | rfl | rfl
    · exact .inl hk
    · exact .inr hM.ge.2.1
    · exact .inr hM.ge.2.2
    · rcases hA.blk with hk | hk
      · exact .inl (hbF _ hk.symm)
      · exact .inr (by omega)
end
/-- What the copy of a row leaves. -/
structure CloD (W W' : World) (b' c' : Nat) (e : TypeId) (vs : List Value) : Prop where
  below : Below W.heap.size W W'
  ge : W.heap.size ≤ b'
  row : Row W' b' e vs
  cap : vs.length ≤ c'
theorem wpList_clone {ops : Array Oper} {o : Oper} {rest : List Oper} {a : Act} {W : World} {Q : Exit → Act → World → Prop} {gs n c t e : Nat} {vs : List Value} {z : Value} {ao : Option Addr}
    (ht : Try.prog.underlying t = some (.slice e)) (hz1 : z.cells.size = 1) (hi : ∃ i, Try.prog.info? e = some i ∧ i.zero = some z ∧ i.size = 1 ∧ i.bytes ≤ 64)
    (hg : o.guard = none) (s x : Operand) (hop : o.op = Op.call { callee := Callee.builtin Builtin.append, args := #[s, x], argTypes := #[t, t] })
    (hs : a.eval s = .slice ao 0 0) (hx : a.eval x = .slice (some ⟨gs, 0, none⟩) n c) (hr : Row W gs e vs) (hl : vs.length = n) (h1 : ∀ u ∈ vs, u.oneCell' = true) (hn : 0 < n ∧ n ≤ 65536)
    (hK : ∀ b' c' W', Hid (CloD W W' b' c' e vs) → wpList Try.prog ops Q rest (a.put o.dst (.slice (some ⟨b', 0, none⟩) n c')) W') : wpList Try.prog ops Q (o :: rest) a W := by
  refine wpList_plain hg fun K hK' => ?_
  have hsrc : Src Try.prog 1 t (.slice (some ⟨gs, 0, none⟩) n c) n vs W := Src.ofSlice W ht _ n c _ (by rw [hl, Nat.mul_one]) (fun j u hj => by
    have hjl := (List.getElem?_eq_some_iff.1 hj).1
    rw [add_plain, hr.cell j hjl]
    rw [List.getElem?_eq_getElem hjl] at hj
    exact hj) h1
  have hcame : Came W 1 ao 0 0 0 0 [] := ⟨Nat.le_refl _, fun h => absurd h (by simp), fun h => absurd h (by simp), rfl, fun j u h => by simp at h, fun j h => by simp at h⟩
  obtain ⟨bl', cap', W', hrun, hA⟩ := append_grow hcame ht z hz1 hi o.type _ n vs hsrc (by omega) (by omega)
  have hge : W.heap.size ≤ bl' := (hA.step.foot bl' rfl).elim (fun h => absurd h.1 (by simp)) id
  have hbel : Below W.heap.size W W' := ⟨hA.step.os, hA.step.tape, hA.step.output, hA.step.size, fun k hk => hA.step.block k hk (fun h => absurd h.1 (by simp))⟩
  rw [Nat.zero_add] at hrun
  have hrow : Row W' bl' e vs := by
    have := row_of_came hA.blk hA.came
    rwa [List.nil_append] at this
  unfold Oper.wp
  simp [execOp, hop, resolve, invoke, builtin, hs, hx, hrun, Result.andThen]
  exact hK' _ _ (hK bl' cap' W' (Lib.hid ⟨hbel, hge, hrow, by have := hA.came.le; omega⟩))
theorem info5' : ∃ i, Try.prog.info? 5 = some i ∧ i.zero = some (.int .u8 0) ∧ i.size = 1 ∧ i.bytes ≤ 64 := by
  obtain ⟨i1, hi1, hz1, hs1, hb1⟩ := info_parts info5
  exact ⟨i1, hi1, hz1, hs1, by omega⟩
/-- The copy's region, ahead of the append. -/
theorem copyE {wr W2 W3 : World} {r : DR} {b' c' s' c2 : Nat} {x3 x4 : Value} {E5 E4 : Obj}
    (h2 : CloD ((wr.alloc (.cells #[.bool r.live, .int .u64 r.base, .int .i64 r.perm, x3, x4] 59)).alloc E5) W2 b' c' 5 (r.bytes.map (Value.int .u8)))
    (h3 : CloD ((W2.setCell ⟨wr.heap.size, 3, none⟩ (.slice (some ⟨b', 0, none⟩) r.bytes.length c')).alloc E4) W3 s' c2 4 (r.set.map Value.bool)) :
    NewE wr (W3.setCell ⟨wr.heap.size, 4, none⟩ (.slice (some ⟨s', 0, none⟩) r.bytes.length c2)) wr.heap.size ⟨b', s', c', c2, r⟩ := by
  have h0 := heap_alloc_new wr (.cells #[.bool r.live, .int .u64 r.base, .int .i64 r.perm, x3, x4] 59)
  have b0 := below_alloc (below_alloc (Below.refl wr.heap.size wr) (.cells #[.bool r.live, .int .u64 r.base, .int .i64 r.perm, x3, x4] 59)) E5
  have z1 : ((wr.alloc (.cells #[.bool r.live, .int .u64 r.base, .int .i64 r.perm, x3, x4] 59)).alloc E5).heap.size = wr.heap.size + 1 + 1 := by simp
  have h1 := MemB.heap_alloc_old (o' := E5) h0
  generalize (wr.alloc (.cells #[.bool r.live, .int .u64 r.base, .int .i64 r.perm, x3, x4] 59)).alloc E5 = w1 at *
  have z2 := h2.below.size
  have g1 := h2.ge
  have b2 := b0.trans (h2.below.mono (by omega))
  have k2 := (h2.below.block wr.heap.size (by omega)).trans h1
  have k3 := MemB.heap_setCell_at (i := 3) (v := .slice (some ⟨b', 0, none⟩) r.bytes.length c') k2
  have b3 : Below wr.heap.size wr (W2.setCell ⟨wr.heap.size, 3, none⟩ (.slice (some ⟨b', 0, none⟩) r.bytes.length c')) := below_set b2 (Nat.le_refl _)
  have l2 := h2.row.lt
  have r3 := h2.row.keep (Below.heap_setCell W2 ⟨wr.heap.size, 3, none⟩ (.slice (some ⟨b', 0, none⟩) r.bytes.length c') b' (by simp only; omega))
  have z3 : (W2.setCell ⟨wr.heap.size, 3, none⟩ (.slice (some ⟨b', 0, none⟩) r.bytes.length c')).heap.size = W2.heap.size := by simp [World.setCell]
  generalize W2.setCell ⟨wr.heap.size, 3, none⟩ (.slice (some ⟨b', 0, none⟩) r.bytes.length c') = W2s at *
  have z4 : (W2s.alloc E4).heap.size = W2s.heap.size + 1 := by simp
  have k4 := MemB.heap_alloc_old (o' := E4) k3
  have b4 := below_alloc b3 E4
  have r4 := r3.keep (Below.heap_alloc W2s E4 b' (by omega))
  generalize W2s.alloc E4 = w4 at *
  have z5 := h3.below.size
  have g3 := h3.ge
  have k5 := (h3.below.block wr.heap.size (by omega)).trans k4
  have b5 := b4.trans (h3.below.mono (by omega))
  have r5 := r4.keep (h3.below.block b' (by omega))
  have k6 := MemB.heap_setCell_at (i := 4) (v := .slice (some ⟨s', 0, none⟩) r.bytes.length c2) k5
  have b6 : Below wr.heap.size wr (W3.setCell ⟨wr.heap.size, 4, none⟩ (.slice (some ⟨s', 0, none⟩) r.bytes.length c2)) := below_set b5 (Nat.le_refl _)
  exact ⟨b6, ⟨Nat.le_refl _, by show wr.heap.size ≤ b'; omega, by show wr.heap.size ≤ s'; omega⟩, k6, r5.keep (Below.heap_setCell W3 ⟨wr.heap.size, 4, none⟩ _ b' (by simp only; omega)), h3.row.keep (Below.heap_setCell W3 ⟨wr.heap.size, 4, none⟩ _ s' (by simp only; omega))⟩
def CopR (w wr : World) (go : Nat) (rs : List DR) (k : Nat) : Prop := ∃ F', DQ wr F' go (rs.take k) ∧ (∀ b, F' b → w.heap.size ≤ b) ∧ Below w.heap.size w wr
section
variable {w : World} {F : Nat → Prop} {g : Nat} {ds : List DE}
theorem rcopy_start (w : World) : DQ (w.alloc (.cells #[.slice none 0 0] 52)) (fun b => b = w.heap.size) w.heap.size [] :=
  ⟨[], rfl, ⟨⟨.slice none 0 0, heap_alloc_new w _, World.ownsRow_nil _ _ _ _, fun k hk => by simp [Value.ownBlock] at hk⟩, fun i e he => by simp at he, fun i j e e' he => by simp at he, rfl, fun b hb => by subst hb; simp, by simp⟩⟩
set_option maxRecDepth 100000 in
set_option maxHeartbeats 8000000 in
theorem RCopy_go (h : DIx w F g ds) (hlim : ds.length < 99999) :
    Calls Try.prog 26 #[.pointer (some ⟨g, 0, none⟩)] w fun x w' => ∃ go, x = .returned (.pointer (some ⟨go, 0, none⟩)) ∧ CopR w w' go (ds.map (·.r)) ds.length := by
  obtain ⟨ao, bl, cap, g0, hc, hcm, hA⟩ := h.at_
  have hlen := h.len
  have HA := Lib.hid hA
  have H := Lib.hid h
  obtain ⟨nn, hnn⟩ : ∃ nn, nn = ds.length := ⟨_, rfl⟩
  have HN := Lib.hid hnn
  rw [← hnn] at g0 hc hlen hlim ⊢
  have HS0 : Hid (CopR w (w.alloc (.cells #[.slice none 0 0] 52)) w.heap.size (ds.map (·.r)) 0) := Lib.hid ⟨_, rcopy_start w, fun b hb => by rw [hb]; exact Nat.le_refl _, below_alloc (Below.refl _ _) _⟩
  have g0a : ∀ o, (w.alloc o).cell? ⟨g, 0, none⟩ = some (.slice ao nn cap) := fun o => old (below_alloc (Below.refl _ _) o) g0
  obtain ⟨go, hgo⟩ : ∃ go, go = w.heap.size := ⟨_, rfl⟩
  rw [← hgo] at HS0
  clear h hA hnn
  go_enter Try.func26, Try.ntmps26
  go_wp2
  rw [← hgo]
  have HGO := Lib.hid hgo
  clear hgo g0 g0a
  go_loopw [13] (fun i wr => ∃ k : Nat, k ≤ nn ∧ i = .int .i64 (k : Int) ∧ Hid (CopR w wr go (ds.map (·.r)) k)) (fun i _ => nn - (intOf i).toNat)
  case atStart => exact ⟨0, Nat.zero_le _, rfl, HS0⟩
  case round =>
    clear HS0
    obtain ⟨k, hk, rfl, HS⟩ := hrel
    by_cases hlt : k < nn
    · obtain ⟨e, hi⟩ : ∃ e, ds[k]? = some e := ⟨_, List.getElem?_eq_getElem (by rw [← HN.out]; exact hlt)⟩
      obtain ⟨F', ⟨es', he', hM⟩, hF, hB⟩ := HS.out
      have HB := Lib.hid hB; have HF := Lib.hid hF; have HM := Lib.hid hM; have HE := Lib.hid he'
      obtain ⟨rfl, r0, r1, r2, r3, r4, -⟩ := HA.out k e hi
      have hR := H.out.regs k e hi
      have HR := Lib.hid (hR.keep (w' := wr) (F' := F) (fun b hb => hB.block b (H.out.lt b hb)) (fun _ h => h))
      have r0 := old hB r0
      have r1 := old hB r1
      have r2 := old hB r2
      have r3 := old hB r3
      have r4 := old hB r4
      have HI := Lib.hid hi
      have hlen3 := hR.ok.len
      have hsl3 := hR.ok.slen
      have hlk : es'.length = k := by
        have := congrArg List.length he'
        rw [List.length_map, List.length_take, List.length_map, ← HN.out] at this
        omega
      obtain ⟨ao1, bl1, cap1, q0, q1, q2, -⟩ := hM.at_
      rw [hlk] at q0 q1
      clear hM hB hF he' hR hi HS
      go_wp2_with (at_builtin; refine Stand.out ?_)
      refine ⟨?_⟩
      have hgbw := HR.out.row
      have hgsw := HR.out.srow
      have hlb := hgbw.lt
      have hls := hgsw.lt
      refine wpList_clone (e := 5) (vs := e.r.bytes.map (Value.int .u8)) (z := .int .u8 0) Try.underlying36 rfl info5' rfl _ _ rfl rfl rfl (hgbw.keep (by rw [Below.heap_alloc _ _ e.gb (by simp; omega), Below.heap_alloc _ _ e.gb hlb])) (by rw [List.length_map]) (fun u hu => by obtain ⟨_, _, rfl⟩ := List.mem_map.1 hu; rfl) hlen3 ?_
      intro b' c' W2 HC2
      have H2 : ∃ x3 x4, W2.heap[wr.heap.size]? = some (.cells #[.bool e.r.live, .int .u64 e.r.base, .int .i64 e.r.perm, x3, x4] 59 (0, 0)) := ⟨_, _, (HC2.out.below.block wr.heap.size (by simp; omega)).trans (MemB.heap_alloc_old (heap_alloc_new wr _))⟩
      have z2 : wr.heap.size + 2 ≤ W2.heap.size := by have := HC2.out.below.size; simp at this; omega
      have e4 : W2.cell? ⟨wr.heap.size, 4, none⟩ = some (.slice (some ⟨e.gs, 0, none⟩) e.r.bytes.length e.cs) := (blk_cell ((HC2.out.below.block wr.heap.size (by simp; omega)).trans (MemB.heap_alloc_old (heap_alloc_new wr _))) 4).trans rfl
      obtain ⟨x3, x4, H2⟩ := H2
      have c3 : W2.cell? ⟨wr.heap.size, 3, none⟩ = some x3 := (blk_cell H2 3).trans rfl
      have f3 := blk_frozen H2 3
      have e4' : ∀ v o, ((W2.setCell ⟨wr.heap.size, 3, none⟩ v).alloc o).cell? ⟨wr.heap.size, 4, none⟩ = some (.slice (some ⟨e.gs, 0, none⟩) e.r.bytes.length e.cs) := fun v o => by
        rw [World.cell?_alloc_old _ _ _ (by simp [World.setCell]; omega), World.cell?_setCell_other _ _ _ _ (by simp)]
        exact e4
      have hgs2 : ∀ v o, ((W2.setCell ⟨wr.heap.size, 3, none⟩ v).alloc o).heap[e.gs]? = wr.heap[e.gs]? := fun v o => by
        rw [Below.heap_alloc _ _ e.gs (by simp [World.setCell]; omega), Below.heap_setCell W2 ⟨wr.heap.size, 3, none⟩ v e.gs (by simp only; omega), HC2.out.below.block e.gs (by simp; omega), Below.heap_alloc _ _ e.gs (by simp; omega), Below.heap_alloc _ _ e.gs hls]
      have HGS := Lib.hid hgsw
      clear hgbw hgsw hlb hls e4
      go_wp2_with (at_builtin; refine Stand.out ?_)
      refine ⟨?_⟩
      refine wpList_clone (e := 4) (vs := e.r.set.map Value.bool) (z := .bool false) Try.underlying37 rfl info4 rfl _ _ rfl rfl rfl (HGS.out.keep (hgs2 _ _)) (by rw [List.length_map, hsl3]) (fun u hu => by obtain ⟨_, _, rfl⟩ := List.mem_map.1 hu; rfl) hlen3 ?_
      intro s' c2 W3 HC3
      have HNE := Lib.hid (copyE HC2.out HC3.out)
      have H3 := HNE.out.self
      have k3 := HC3.out.below.size
      have z3 : wr.heap.size + 2 ≤ W3.heap.size := by simp [World.setCell] at k3; omega
      have H3b : ∃ u, W3.cell? ⟨wr.heap.size, 4, none⟩ = some u ∧ W3.frozen? ⟨wr.heap.size, 4, none⟩ = false := by
        have hb := (HC3.out.below.block wr.heap.size (by simp [World.setCell]; omega)).trans (MemB.heap_alloc_old (MemB.heap_setCell_at (i := 3) H2))
        exact ⟨_, (blk_cell hb 4).trans rfl, blk_frozen hb 4⟩
      obtain ⟨u4, c4, f4⟩ := H3b
      have HM1 := Lib.hid (HM.out.keep (w' := wr) (fun _ _ => rfl) (Nat.le_refl _))
      have g3 : (W3.setCell ⟨wr.heap.size, 4, none⟩ (.slice (some ⟨s', 0, none⟩) e.r.bytes.length c2)).cell? ⟨go, 0, none⟩ = some (.slice ao1 k cap1) := old HNE.out.below q0
      have gA : ∀ o, ((W3.setCell ⟨wr.heap.size, 4, none⟩ (.slice (some ⟨s', 0, none⟩) e.r.bytes.length c2)).alloc o).cell? ⟨go, 0, none⟩ = some (.slice ao1 k cap1) := fun o => old (below_alloc (Below.refl _ _) o) g3
      have n0 := (blk_cell H3 0).trans rfl
      have n1 := (blk_cell H3 1).trans rfl
      have n2 := (blk_cell H3 2).trans rfl
      have n3 := (blk_cell H3 3).trans rfl
      have n4 := (blk_cell H3 4).trans rfl
      have HQ0 := Lib.hid q0
      have HLK := Lib.hid hlk
      clear H2 H3 k3 z2 z3 c3 f3 e4' hgs2 HGS q0 hlk
      go_wp2
      go_region_law (first
        | (rw [show ∀ o, ((W3.setCell ⟨wr.heap.size, 4, none⟩ (.slice (some ⟨s', 0, none⟩) e.r.bytes.length c2)).alloc o).drew = (W3.setCell ⟨wr.heap.size, 4, none⟩ (.slice (some ⟨s', 0, none⟩) e.r.bytes.length c2)).drew.alloc o from fun _ => rfl]
           refine step_addE (e := ⟨b', s', c', c2, e.r⟩) HM.out HLK.out.symm (by omega) HQ0.out HNE.out rfl _ _ rfl rfl rfl (by simp [World.setCell]) ?_
           rintro bl' cap' W' HA2 hg1 hg2)
        | fail)
      all_goals
        go_wp2
        case roundEnd =>
          rename Hid (AppR _ _ _ _ _ _ _ _ _) => HA2
          obtain ⟨F2, d1, d2⟩ := add_doneE (e := ⟨b', s', c', c2, e.r⟩) HM.out HLK.out.symm (by omega) HQ0.out HNE.out HR.out.ok (by have c1 := HC2.out.cap; have c2 := HC3.out.cap; rw [List.length_map] at c1 c2; exact ⟨c1, by rw [← hsl3]; exact c2⟩) HA2.out
          refine ⟨⟨k + 1, by omega, by go_num, Lib.hid ⟨_, ⟨_, ?_, d1⟩, d2.low HB.out.size HF.out, d2.below HB.out HF.out⟩⟩, by simp [intOf]; omega⟩
          rw [List.map_append, HE.out, List.take_add_one, List.getElem?_map, HI.out]
          rfl
    · have HFIN := Lib.hid (show CopR w wr go (ds.map (·.r)) nn by
        obtain rfl : k = nn := by omega
        exact HS.out)
      go_wp2
      go_ret
      exact ⟨go, rfl, HFIN.out⟩
theorem r_copy {rs : List DR} (h : DQ w F g rs) (hlim : rs.length < 99999) :
    Calls Try.prog 26 #[.pointer (some ⟨g, 0, none⟩)] w fun x w' => ∃ F' go, x = .returned (.pointer (some ⟨go, 0, none⟩)) ∧ DQ w' F' go rs ∧ (∀ b, F' b → w.heap.size ≤ b) ∧ Below w.heap.size w w' := by
  obtain ⟨es, rfl, h⟩ := h
  rw [List.length_map] at hlim
  refine (RCopy_go h hlim).mono fun x w' ⟨go, e1, F', e2, e3, e4⟩ => ⟨F', go, e1, ?_, e3, e4⟩
  rwa [List.take_of_length_le (by rw [List.length_map]; exact Nat.le_refl _)] at e2
end
end Go.Proofs.Ytpjgaacdohiomaa.MemCq
