/- mem.Memory: Write, Store, Poke, walked by hand; the memory behind them. -/
import Derived.Test.YtpjgaacdohiomaaMemC
namespace Go.Proofs.Ytpjgaacdohiomaa.MemD
open Go.RowKit Go.Proofs.Ytpjgaacdohiomaa.PMemCopies Go.Proofs.YtpjgaacdohiomaaW.PrintWords Go.Proofs.YtpjgaacdohiomaaW.PrintLast Go.Proofs.YtpjgaacdohiomaaW.PrintMore Go.Proofs.Ytpjgaacdohiomaa.Mw Go.Proofs.Ytpjgaacdohiomaa.Mem1 Go.Proofs.Ytpjgaacdohiomaa.Mem2 Go.Proofs.Ytpjgaacdohiomaa.Mem3 Go.Proofs.Ytpjgaacdohiomaa.Mem4 Go.Proofs.Ytpjgaacdohiomaa.Mem5 Go.Proofs.Ytpjgaacdohiomaa.Mem6 Go.Proofs.Ytpjgaacdohiomaa.MemA Go.Proofs.Ytpjgaacdohiomaa.MemB Go.Proofs.Ytpjgaacdohiomaa.Mem8 Go.Proofs.Ytpjgaacdohiomaa.Mem9 Go.Proofs.Ytpjgaacdohiomaa.MemN Go.Proofs.Ytpjgaacdohiomaa.MemC
set_option linter.unusedVariables false
set_option linter.unusedSimpArgs false
def layR (r : Rg) (i : Nat) (xs : List Int) : Rg := { r with bytes := over r.bytes xs i, set := r.set.map fun s => over s (List.replicate xs.length true) i }
def layE (e : Ent) (i : Nat) (xs : List Int) : Ent := { e with r := layR e.r i xs }
section
variable {w w' : World} {F : Nat → Prop} {g : Nat} {es : List Ent} {nx : Int}
theorem lay_ {e : Ent} (h : RegAt w F e) (i : Nat) (ad : Addr) (c : Nat) (xs : List Int) (hC : Kd.C (Kd.int .u8) w (some ad) xs.length xs) (hfit : i + xs.length ≤ e.r.bytes.length) (hx : 0 < xs.length) (hxc : xs.length ≤ c) :
    Calls Try.prog 49 #[.pointer (some ⟨e.b, 0, none⟩), .int .i64 (i : Int), .slice (some ad) xs.length c] w fun x w' => x = .returned (.tuple #[]) ∧ LayD w w' e i xs xs.length := by
  cases hset : e.r.set with
  | some s => exact lay_set h s hset i ad c xs hC hfit hx hxc
  | none =>
    refine (lay_all h hset i ad c xs hC hfit hx hxc).mono ?_
    rintro x w' ⟨rfl, rest, rfl⟩
    have := LayD.start h (i := i) (xs := xs) (rest := rest)
    exact ⟨rfl, this.os, this.tape, this.output, this.size, this.block, this.row, fun s hs => absurd (hset.symm.trans hs) (by simp)⟩
theorem over_mem {α : Type} {l xs : List α} {i : Nat} {x : α} (h : x ∈ over l xs i) : x ∈ l ∨ x ∈ xs := by
  unfold over at h
  rcases List.mem_append.1 h with h | h
  · rcases List.mem_append.1 h with h | h
    · exact .inl (List.mem_of_mem_take h)
    · exact .inr h
  · exact .inl (List.mem_of_mem_drop h)
theorem MIx.lay {k : Nat} {e : Ent} {i : Nat} {xs : List Int} (h : MIx w F g es nx) (he : es[k]? = some e) (hfit : i + xs.length ≤ e.r.bytes.length) (hbs : Bs xs) (hD : LayD w w' e i xs xs.length) :
    MIx w' F g (es.set k (layE e i xs)) nx ∧ Step w w' F F := by
  have hR := h.regs k e he
  have hk := (List.getElem?_eq_some_iff.1 he).1
  have hl : (over e.r.bytes xs i).length = e.r.bytes.length := over_len hfit
  have hF : ∀ b, ¬ F b → b ≠ e.gb ∧ (e.r.set ≠ none → b ≠ e.gs) := fun b hb => ⟨fun e' => hb (e' ▸ hR.inF.2), fun hs e' => hb (e' ▸ hR.inNew (.inr (.inr ⟨hs, rfl⟩)))⟩
  -- a block of another type stays
  have hty : ∀ {b t : Nat} {cs : Array Value}, w.heap[b]? = some (.cells cs t (0, 0)) → t ≠ 5 → t ≠ 4 → w'.heap[b]? = w.heap[b]? := fun {b t cs} hb h5 h4 => by
    refine hD.block b ?_ ?_
    · obtain ⟨_, hr⟩ := hR.row
      exact blk_ne hb hr h5
    · intro hs
      obtain ⟨cb, sv, h1, h2, h3⟩ := hR.self
      cases hset : e.r.set with
      | none => exact absurd hset hs
      | some s =>
        rw [hset] at h3
        obtain ⟨_, hr⟩ := h3.2.2.2
        exact blk_ne hb hr h4
  obtain ⟨ao, bl, cap, h1, h2⟩ := h.self
  have getE : ∀ (j : Nat) (e' : Ent), (es.set k (layE e i xs))[j]? = some e' → (j = k ∧ e' = layE e i xs) ∨ (j ≠ k ∧ es[j]? = some e') := fun j e' hj => by
    rw [List.getElem?_set] at hj
    by_cases hjk : k = j
    · rw [if_pos hjk, if_pos (by omega)] at hj
      exact .inl ⟨hjk.symm, by simpa using hj.symm⟩
    · rw [if_neg hjk] at hj
      exact .inr ⟨fun h => hjk h.symm, hj⟩
  have like : ∀ (j : Nat) (e' : Ent), (es.set k (layE e i xs))[j]? = some e' → ∃ e0, es[j]? = some e0 ∧ e'.b = e0.b ∧ e'.gb = e0.gb ∧ e'.gs = e0.gs ∧ e'.r.id = e0.r.id ∧ e'.r.base = e0.r.base ∧ e'.r.bytes.length = e0.r.bytes.length ∧ (e'.r.set ≠ none → e0.r.set ≠ none) := fun j e' hj => by
    rcases getE j e' hj with ⟨rfl, rfl⟩ | ⟨_, hj⟩
    · exact ⟨e, he, rfl, rfl, rfl, rfl, rfl, hl, fun h h' => h (by simp [layE, layR, h'])⟩
    · exact ⟨e', hj, rfl, rfl, rfl, rfl, rfl, rfl, id⟩
  refine ⟨⟨⟨ao, bl, cap, ?_, ?_⟩, ?_, ?_, h.inF, ?_, ?_, ?_, ?_, h.nx0, by rw [List.length_set]; exact h.len⟩, ⟨hD.os, hD.tape, hD.output, Nat.le_of_eq hD.size.symm, fun b _ hb => hD.block b (hF b hb).1 (hF b hb).2, fun b hb => .inl hb⟩⟩
  · rw [List.length_set]
    exact (hty h1 (by decide) (by decide)).trans h1
  · rw [List.length_set]
    have hm : (es.set k (layE e i xs)).map ptr = es.map ptr := by
      apply List.ext_getElem?
      intro j
      rw [List.getElem?_map, List.getElem?_map, List.getElem?_set]
      by_cases hjk : k = j
      · subst hjk
        rw [if_pos rfl, if_pos hk, he]
        rfl
      · rw [if_neg hjk]
    refine ⟨?_, fun hc => ?_⟩
    · rw [hm]
      exact Came.keep h2.came (fun hc => by obtain ⟨_, cs, hb⟩ := h2.blk hc; exact hty hb (by decide) (by decide)) (by rw [hD.size]; exact Nat.le_refl _)
    · obtain ⟨hF, cs, hb⟩ := h2.blk hc
      exact ⟨hF, cs, (hty hb (by decide) (by decide)).trans hb⟩
  · intro j e' hj
    rcases getE j e' hj with ⟨rfl, rfl⟩ | ⟨hjk, hj⟩
    · obtain ⟨cb, sv, k1, k2, k3⟩ := hR.self
      refine ⟨⟨cb, sv, ?_, ?_, ?_⟩, hD.row, hR.inF, ⟨by simp only [layE, layR, hl]; exact hR.ok.len, by simp only [layE, layR, hl]; exact hR.ok.base, hR.ok.perm, fun x hx => (over_mem hx).elim (hR.ok.bs x) (hbs x), hR.ok.id⟩⟩
      · simp only [layE, layR, hl]
        exact (hty k1 (by decide) (by decide)).trans k1
      · simp only [layE, layR, hl]; exact k2
      · cases hset : e.r.set with
        | none => rw [hset] at k3; simp only [layE, layR, hset]; exact k3
        | some s =>
          rw [hset] at k3
          simp only [layE, layR, hset, hl]
          refine ⟨by rw [over_len (by rw [List.length_replicate, k3.1]; exact hfit)]; exact k3.1, k3.2.1, k3.2.2.1, hD.set s hset⟩
    · have hR' := h.regs j e' hj
      have hap := h.apart j k e' e hj he hjk
      refine hR'.mono (fun b hb => ?_) (fun _ h => h)
      rcases hb with rfl | rfl | ⟨hs, rfl⟩
      · obtain ⟨_, _, k1, _⟩ := hR'.self
        exact hty k1 (by decide) (by decide)
      · refine hD.block _ hap.gb fun hs => ?_
        obtain ⟨_, hr⟩ := hR'.row
        obtain ⟨cb, sv, k1, k2, k3⟩ := hR.self
        cases hset : e.r.set with
        | none => exact absurd hset hs
        | some s =>
          rw [hset] at k3
          obtain ⟨_, hr2⟩ := k3.2.2.2
          exact blk_ne hr hr2 (by decide)
      · refine hD.block _ ?_ fun hs' => hap.gs hs hs'
        obtain ⟨_, hr⟩ := hR.row
        obtain ⟨cb, sv, k1, k2, k3⟩ := hR'.self
        cases hset : e'.r.set with
        | none => exact absurd hset hs
        | some s =>
          rw [hset] at k3
          obtain ⟨_, hr2⟩ := k3.2.2.2
          exact blk_ne hr2 hr (by decide)
  · intro j j' e1 e2 h1 h2 hne
    obtain ⟨a1, b1, c1, d1, f1, g1, i1, l1, m1⟩ := like j e1 h1
    obtain ⟨a2, b2, c2, d2, f2, g2, i2, l2, m2⟩ := like j' e2 h2
    have := h.apart j j' a1 a2 b1 b2 hne
    exact ⟨by rw [c1, c2]; exact this.b, by rw [d1, d2]; exact this.gb, fun x y => by rw [f1, f2]; exact this.gs (m1 x) (m2 y)⟩
  · intro b hb
    rw [hD.size]
    exact h.lt b hb
  · intro j e1 h1
    obtain ⟨a1, b1, c1, d1, f1, g1, i1, l1, m1⟩ := like j e1 h1
    rw [g1]
    exact h.ids j a1 b1
  · intro j j' e1 e2 h1 h2 hne
    obtain ⟨a1, b1, c1, d1, f1, g1, i1, l1, m1⟩ := like j e1 h1
    obtain ⟨a2, b2, c2, d2, f2, g2, i2, l2, m2⟩ := like j' e2 h2
    rw [g1, g2]
    exact h.idn j j' a1 a2 b1 b2 hne
  · intro j j' e1 e2 h1 h2 hne
    obtain ⟨a1, b1, c1, d1, f1, g1, i1, l1, m1⟩ := like j e1 h1
    obtain ⟨a2, b2, c2, d2, f2, g2, i2, l2, m2⟩ := like j' e2 h2
    rw [i1, i2, l1, l2]
    exact h.dis j j' a1 a2 b1 b2 hne
end
end Go.Proofs.Ytpjgaacdohiomaa.MemD
