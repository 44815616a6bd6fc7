/- Slices of pointers appended to: what the builtin makes, and what stays. -/
import Derived.Test.YtpjgaacdohiomaaMem6
import Derived.Deep.Onto
import Derived.BigQuiet
namespace Go.Proofs.Ytpjgaacdohiomaa.MemA
open Go.RowKit Go.Proofs.Ytpjgaacdohiomaa.PMemCopies Go.Proofs.YtpjgaacdohiomaaW.PrintWords Go.Proofs.YtpjgaacdohiomaaW.PrintLast Go.Proofs.YtpjgaacdohiomaaW.PrintMore Go.Proofs.Ytpjgaacdohiomaa.Mw Go.Proofs.Ytpjgaacdohiomaa.Mem1 Go.Proofs.Ytpjgaacdohiomaa.Mem2 Go.Proofs.Ytpjgaacdohiomaa.Mem3 Go.Proofs.Ytpjgaacdohiomaa.Mem4 Go.Proofs.Ytpjgaacdohiomaa.Mem6
set_option linter.unusedVariables false
set_option linter.unusedSimpArgs false
/-- A builtin's append, as one step of a region that draws, over what it answers. -/
theorem step_append {P : Program} {ops : Array Oper} {o : Oper} {a : Act} {w w' : World} {K : Act → World → Prop} {Q : Exit → Act → World → Prop} {E : Prop}
    (hg : o.guard = none) (s x : Operand) (t tx : TypeId) (hop : o.op = Op.call { callee := Callee.builtin Builtin.append, args := #[s, x], argTypes := #[t, tx] })
    {v xv v' : Value} (hs : a.eval s = v) (hx : a.eval x = xv) (hrun : (Builtin.append_ #[t, tx] o.type #[v, xv]).run P w = .ok v' w')
    (hK : K (a.put o.dst v') w') :
    if Region.wanted o (yielded ops a.tmps) = true then Oper.wp P o a w K Q else E := by
  have hw : Region.wanted o (yielded ops a.tmps) = true := by simp [Region.wanted, hg]
  rw [if_pos hw]
  unfold Oper.wp
  simp [execOp, hop, resolve, invoke, builtin, hs, hx, hrun, Result.andThen]
  exact hK
theorem drew2 (w : World) (a b : Nat) : (w.drewN a).drewN b = w.drewN (a + b) := by simp [World.drewN, Nat.add_assoc]
/-- What an append made of a slice of pointers. -/
structure AppD (w w' : World) (e : TypeId) (ao : Option Addr) (bl n cap : Nat) (vs : List Value) (ao' : Option Addr) (bl' n' cap' : Nat) : Prop where
  came : Came w' 1 ao' bl' 0 n' cap' vs
  blk : ∃ cs, w'.heap[bl']? = some (.cells cs e (0, 0))
  pos : 0 < cap'
  step : Step w w' (fun b => 0 < cap ∧ b = bl) (fun b => b = bl')
theorem firstOf {P : Program} {w : World} {ao : Option Addr} {bl n cap : Nat} {olds : List Value} (hc : Came w 1 ao bl 0 n cap olds) (c : Nat) : (Builtin.firstCells 1 n (.slice ao n c)).run P w.drew = .ok olds.toArray w.drew := by
  have hol := hc.oldsLen
  rcases Nat.eq_zero_or_pos cap with h0 | hcap
  · subst h0
    obtain rfl : n = 0 := by have := hc.le; omega
    obtain rfl : olds = [] := List.eq_nil_of_length_eq_zero (by simpa using hol)
    cases ao with
    | none => exact run_firstCells_none w.drew 1 0 0 c
    | some a' => exact run_firstCells_some w.drew 1 0 a' 0 c [] (by simp) (by intro _ _ h'; simp at h')
  · rw [hc.addr hcap]
    refine run_firstCells_some w.drew 1 n ⟨bl, 0, none⟩ n c olds hol (fun j u hu => ?_)
    rw [Addr.add_lit]
    exact hc.olds j u hu
theorem append_grow {w : World} {ao : Option Addr} {bl n cap e t : Nat} {olds : List Value} (hc : Came w 1 ao bl 0 n cap olds) (ht : Try.prog.underlying t = some (.slice e)) (z : Value) (hz1 : z.cells.size = 1)
    (hi : ∃ i, Try.prog.info? e = some i ∧ i.zero = some z ∧ i.size = 1 ∧ i.bytes ≤ 64) (ty : TypeId) (x : Value) (m : Nat) (news : List Value) (hs : Src Try.prog 1 t x m news w) (hg : cap < n + m) (hn : n + m ≤ 100000) :
    ∃ bl' cap' w', (Builtin.append_ #[t, t] ty #[.slice ao n cap, x]).run Try.prog w = .ok (.slice (some ⟨bl', 0, none⟩) (n + m) cap') w' ∧ AppD w w' e ao bl n cap (olds ++ news) (some ⟨bl', 0, none⟩) bl' (n + m) cap' := by
  obtain ⟨i, hi, hz, hs1, hby⟩ := hi
  have hold := firstOf (P := Try.prog) hc cap
  have hbb : (n + m) * i.bytes ≤ 140737488355328 := by
    have := Nat.mul_le_mul hn hby
    omega
  rw [← hs1] at hs hold
  have hrun := run_append_grow_src (P := Try.prog) w t t ty e i z ht hi hz ao n cap olds hold x m news hs hg (by omega) (growslice_fits hg hbb)
  have hge := grownCap_ge w (n + m) cap e
  have hcm := grownCap_le_maxLen w (n + m) cap e (by simp only [maxLen]; omega)
  have hol := hc.oldsLen
  have hnl := hs.newsLen
  rw [hs1, Nat.mul_one] at hnl
  have hL : (olds ++ news).length = n + m := by rw [List.length_append, hol, hnl]; omega
  have hsz : ((olds ++ news).toArray ++ Builtin.zeroCells z.cells (grownCap w (n + m) cap e - (n + m))).size = grownCap w (n + m) cap e := by
    rw [Array.size_append, List.size_toArray, hL, size_zeroCells, hz1]; omega
  have hnew : ∀ j, (w.drew.alloc (.cells ((olds ++ news).toArray ++ Builtin.zeroCells z.cells (grownCap w (n + m) cap e - (n + m))) e)).cell? ⟨w.heap.size, j, none⟩ = _ := fun j => World.cell?_alloc_new w.drew _ _ j
  refine ⟨_, _, _, hrun, ⟨?_, ?_, ?_, ?_, ?_, ?_⟩, ⟨_, heap_alloc_new w.drew _⟩, by omega, ?_⟩
  · exact hge
  · exact fun _ => rfl
  · exact fun _ => by show w.heap.size < (w.drew.alloc _).heap.size; simp
  · rw [hL, Nat.mul_one]
  · intro j u hu
    have hj := (List.getElem?_eq_some_iff.1 hu).1
    rw [Nat.zero_add, hnew, Array.getElem?_append_left (by simpa using hj), List.getElem?_toArray]
    exact hu
  · intro j hj
    refine ⟨?_, World.frozen?_alloc_new w.drew _ _ _⟩
    rw [hnew, Array.getElem?_eq_getElem (by rw [hsz]; omega)]
    rfl
  · exact ((Step.refl w _).drew.alloc _).to (fun b hb => .inr (by show w.heap.size ≤ b; rw [hb]; exact Nat.le_refl _))
theorem append_room {w : World} {ao : Option Addr} {bl n cap e t : Nat} {olds : List Value} (hc : Came w 1 ao bl 0 n cap olds) (hb : 0 < cap → ∃ cs, w.heap[bl]? = some (.cells cs e (0, 0))) (ht : Try.prog.underlying t = some (.slice e))
    (hi : ∃ i, Try.prog.info? e = some i ∧ i.size = 1) (ty : TypeId) (x u : Value) (hs : Src Try.prog 1 t x 1 [u] w) (hg : n < cap) :
    ∃ w', (Builtin.append_ #[t, t] ty #[.slice ao n cap, x]).run Try.prog w = .ok (.slice ao (n + 1) cap) w' ∧ AppD w w' e ao bl n cap (olds ++ [u]) ao bl (n + 1) cap := by
  obtain ⟨i, hi, hs1⟩ := hi
  have hcap : 0 < cap := by omega
  obtain rfl := hc.addr hcap
  have hol := hc.oldsLen
  have hs : Src Try.prog i.size t x 1 [u] w := by rw [hs1]; exact hs
  have hsp := hc.spare 0 (by omega)
  have hsp0 : (w.cell? ⟨bl, n, none⟩).isSome = true ∧ w.frozen? ⟨bl, n, none⟩ = false := by rw [Nat.zero_add, Nat.mul_one, Nat.add_zero] at hsp; exact hsp
  have hrun := run_append_room_src (P := Try.prog) w t t ty e i ht hi bl 0 n cap x 1 [u] hs (by omega)
    (fun j hj => by obtain rfl : j = 0 := by simpa using hj
                    rw [hs1, Nat.zero_add, Nat.mul_one]; exact hsp0.1)
    (fun j hj => by obtain rfl : j = 0 := by simpa using hj
                    rw [hs1, Nat.zero_add, Nat.mul_one]; exact hsp0.2)
  rw [hs1, Nat.zero_add, Nat.mul_one] at hrun
  have hrun : (Builtin.append_ #[t, t] ty #[.slice (some ⟨bl, 0, none⟩) n cap, x]).run Try.prog w = .ok (.slice (some ⟨bl, 0, none⟩) (n + 1) cap) (w.setCell ⟨bl, n, none⟩ u) := hrun
  obtain ⟨u0, hu0⟩ := Option.isSome_iff_exists.1 hsp0.1
  obtain ⟨cs, hcs⟩ := hb hcap
  refine ⟨_, hrun, ⟨by omega, fun _ => rfl, fun _ => by have := hc.lt hcap; simpa [World.setCell] using this, by rw [List.length_append, hol]; simp, fun j v hj => ?_, fun j hj => ?_⟩, ⟨cs.setIfInBounds n u, by simp [World.setCell, Array.getElem?_modify, hcs]⟩, hcap, ?_⟩
  · rw [Nat.zero_add]
    by_cases hjn : j = n
    · subst hjn
      rw [World.cell?_setCell_same _ _ _ hu0]
      rw [List.getElem?_append_right (by omega), hol] at hj
      simpa using hj
    · rw [World.cell?_setCell_other _ _ _ _ (fun e => hjn (by have e1 := congrArg Addr.off e; simp at e1; omega))]
      have hl := (List.getElem?_eq_some_iff.1 hj).1
      rw [List.length_append, hol] at hl
      simp at hl
      rw [List.getElem?_append_left (by omega)] at hj
      have := hc.olds j v hj
      rwa [Nat.zero_add] at this
  · have h1 := hc.spare (j + 1) (by omega)
    rw [show 0 + n * 1 + (j + 1) = 0 + (n + 1) * 1 + j by omega] at h1
    refine ⟨?_, by rw [World.frozen?_setCell]; exact h1.2⟩
    rw [World.cell?_setCell_other _ _ _ _ (fun e => by have := congrArg Addr.off e; simp at this; try omega)]
    exact h1.1
  · exact (((Step.refl w (fun b => 0 < cap ∧ b = bl)).setCell (p := ⟨bl, n, none⟩) (.inl ⟨hcap, rfl⟩) u).to (fun b hb => .inl ⟨hcap, hb⟩))
/-- One pointer more. -/
theorem append_ptr {w : World} {ao : Option Addr} {bl n cap : Nat} {olds : List Value} (hc : Came w 1 ao bl 0 n cap olds) (hb : 0 < cap → ∃ cs, w.heap[bl]? = some (.cells cs 92 (0, 0))) (ty : TypeId) (u : Value) (ad : Addr) (c : Nat) (hu : w.cell? ad = some u) (h1 : u.oneCell' = true) (hn : n ≤ 5000) :
    ∃ ao' bl' cap' w', (Builtin.append_ #[89, 89] ty #[.slice ao n cap, .slice (some ad) 1 c]).run Try.prog w = .ok (.slice ao' (n + 1) cap') w' ∧ AppD w w' 92 ao bl n cap (olds ++ [u]) ao' bl' (n + 1) cap' := by
  obtain ⟨i, hi, hz, hs1, hb1⟩ := info_parts (P := Try.prog) (e := 92) (z := .pointer none) (size := 1) (bytes := 8) (by kernel_rfl)
  have hs : Src Try.prog 1 89 (.slice (some ad) 1 c) 1 [u] w := Src.ofSlice w Try.underlying89 ad 1 c [u] rfl (fun j v hj => by
    have hl := (List.getElem?_eq_some_iff.1 hj).1
    obtain rfl : j = 0 := by simpa using hl
    obtain rfl : u = v := by simpa using hj
    simpa [Addr.add] using hu) (fun v hv => by simp at hv; subst hv; exact h1)
  by_cases hg : n < cap
  · obtain ⟨w', h2, h3⟩ := append_room hc hb Try.underlying89 ⟨i, hi, hs1⟩ ty _ u hs hg
    exact ⟨_, _, _, _, h2, h3⟩
  · obtain ⟨bl', cap', w', h2, h3⟩ := append_grow hc Try.underlying89 (.pointer none) rfl ⟨i, hi, hz, hs1, by omega⟩ ty _ 1 [u] hs (by omega) (by omega)
    exact ⟨_, _, _, _, h2, h3⟩
end Go.Proofs.Ytpjgaacdohiomaa.MemA
