/- mem.Memory: what Read and Load answer, in all; lay of any region; a memory behind it. -/
import Derived.Test.YtpjgaacdohiomaaMem9
import Derived.Test.YtpjgaacdohiomaaMemN
namespace Go.Proofs.Ytpjgaacdohiomaa.MemC
open Go.RowKit Go.Proofs.Ytpjgaacdohiomaa.PMemCopies Go.Proofs.YtpjgaacdohiomaaW.PrintWords Go.Proofs.YtpjgaacdohiomaaW.PrintLast Go.Proofs.YtpjgaacdohiomaaW.PrintMore Go.Proofs.Ytpjgaacdohiomaa.Mw Go.Proofs.Ytpjgaacdohiomaa.Mem1 Go.Proofs.Ytpjgaacdohiomaa.Mem2 Go.Proofs.Ytpjgaacdohiomaa.Mem3 Go.Proofs.Ytpjgaacdohiomaa.Mem4 Go.Proofs.Ytpjgaacdohiomaa.Mem5 Go.Proofs.Ytpjgaacdohiomaa.Mem6 Go.Proofs.Ytpjgaacdohiomaa.MemA Go.Proofs.Ytpjgaacdohiomaa.MemB Go.Proofs.Ytpjgaacdohiomaa.Mem8 Go.Proofs.Ytpjgaacdohiomaa.Mem9 Go.Proofs.Ytpjgaacdohiomaa.MemN
set_option linter.unusedVariables false
set_option linter.unusedSimpArgs false
def setOk (r : Rg) (d m : Nat) : Bool := match r.set with | none => true | some s => allSet s d m
/-- What Read answers: the error's number, the bytes. -/
def readS (es : List Ent) (a n : Int) : Int × List Int :=
  if n < 0 then (2, []) else if n = 0 then (0, []) else
  match atR es a n with
  | none => (10, [])
  | some (e, d) => if e.r.perm % 2 = 0 then (10, []) else if setOk e.r d.toNat n.toNat = true then (0, (e.r.bytes.drop d.toNat).take n.toNat) else (11, [])
/-- Bytes that were made. -/
def BV (w : World) (B : Nat) (v : Value) (l : List Int) : Prop := (l = [] ∧ v = .slice none 0 0) ∨ ∃ b c, v = .slice (some ⟨b, 0, none⟩) l.length c ∧ l.length ≤ c ∧ B ≤ b ∧ Row w b 5 (l.map (Value.int .u8))
section
variable {w : World} {F : Nat → Prop} {g : Nat} {es : List Ent} {nx : Int}
theorem at_len {a n : Int} {e : Ent} {d : Int} (hm : atR es a n = some (e, d)) (hn : 1 ≤ n) : d.toNat + n.toNat ≤ e.r.bytes.length ∧ 0 ≤ d := by
  obtain ⟨-, hin, hd, hnd⟩ := atR_mem hm
  unfold inR at hin
  simp only [Bool.and_eq_true, decide_eq_true_eq] at hin
  omega
theorem Read_ (h : MIx w F g es nx) (a n : Int) (ha : 0 ≤ a ∧ a < 18446744073709551616) :
    Calls Try.prog 17 #[.pointer (some ⟨g, 0, none⟩), .int .u64 a, .int .i64 n] w fun x w' => ∃ v, x = .returned (.tuple #[v, .int .i64 (readS es a n).1]) ∧ BV w' w.heap.size v (readS es a n).2 ∧ Below w.heap.size w w' ∧ ((readS es a n).1 ≠ 0 → v = .slice none 0 0 ∧ w = w') := by
  unfold readS
  by_cases h1 : n < 0
  · rw [if_pos h1]
    exact (Read_neg g a n w h1).mono fun x w' ⟨e1, e2⟩ => ⟨_, e1, .inl ⟨rfl, rfl⟩, e2 ▸ Below.refl _ _, fun _ => ⟨rfl, e2⟩⟩
  rw [if_neg h1]
  by_cases h2 : n = 0
  · subst h2
    rw [if_pos rfl]
    exact (Read_zero g a w).mono fun x w' ⟨e1, e2⟩ => ⟨_, e1, .inl ⟨rfl, rfl⟩, e2 ▸ Below.refl _ _, fun _ => ⟨rfl, e2⟩⟩
  rw [if_neg h2]
  have hn : 1 ≤ n := by omega
  cases hm : atR es a n with
  | none => exact (Read_miss h a n ha hn hm).mono fun x w' ⟨e1, e2⟩ => ⟨_, e1, .inl ⟨rfl, rfl⟩, e2 ▸ Below.refl _ _, fun _ => ⟨rfl, e2⟩⟩
  | some ed =>
    obtain ⟨e, d⟩ := ed
    simp only
    by_cases hp : e.r.perm % 2 = 0
    · rw [if_pos hp]
      exact (Read_perm h a n ha hn e d hm hp).mono fun x w' ⟨e1, e2⟩ => ⟨_, e1, .inl ⟨rfl, rfl⟩, e2 ▸ Below.refl _ _, fun _ => ⟨rfl, e2⟩⟩
    rw [if_neg hp]
    have hp1 : e.r.perm % 2 = 1 := by omega
    have hl := (at_len hm hn).1
    have hlen : ((e.r.bytes.drop d.toNat).take n.toNat).length = n.toNat := by rw [List.length_take, List.length_drop]; omega
    cases hset : e.r.set with
    | none =>
      have : setOk e.r d.toNat n.toNat = true := by unfold setOk; rw [hset]
      rw [if_pos this]
      exact (Read_all h a n ha hn e d hm hp1 hset).mono fun x w' ⟨b, c, e1, k1, k2, k3, k4⟩ => ⟨_, e1, .inr ⟨b, c, by rw [hlen], by rw [hlen]; exact k1, k2, k3⟩, k4, fun h => absurd rfl h⟩
    | some s =>
      have hso : setOk e.r d.toNat n.toNat = allSet s d.toNat n.toNat := by unfold setOk; rw [hset]
      rw [hso]
      have hC := Read_set h a n ha hn e d hm hp1 s hset
      cases hall : allSet s d.toNat n.toNat with
      | true =>
        rw [if_pos rfl]
        exact hC.mono fun x w' hh => by
          obtain ⟨b, c, e1, k1, k2, k3, k4⟩ := hh.1 hall
          exact ⟨_, e1, .inr ⟨b, c, by rw [hlen], by rw [hlen]; exact k1, k2, k3⟩, k4, fun h => absurd rfl h⟩
      | false =>
        rw [if_neg (by simp)]
        exact hC.mono fun x w' hh => by
          obtain ⟨e1, e2⟩ := hh.2 hall
          exact ⟨_, e1, .inl ⟨rfl, rfl⟩, e2 ▸ Below.refl _ _, fun _ => ⟨rfl, e2⟩⟩
def okSize (s : Int) : Prop := s = 1 ∨ s = 2 ∨ s = 4 ∨ s = 8
instance (s : Int) : Decidable (okSize s) := by unfold okSize; infer_instance
def loadS (es : List Ent) (a s : Int) : Int × Int := if ¬ okSize s then (2, 0) else if (readS es a s).1 = 0 then (0, num (readS es a s).2) else ((readS es a s).1, 0)
theorem loadS_of {a s : Int} (hs : okSize s) : loadS es a s = if (readS es a s).1 = 0 then (0, num (readS es a s).2) else ((readS es a s).1, 0) := by unfold loadS; rw [if_neg (by simpa using hs)]
theorem _root_.Go.Proofs.Ytpjgaacdohiomaa.Mem1.MIx.bytes (h : MIx w F g es nx) {a n : Int} {e : Ent} {d : Int} (hm : atR es a n = some (e, d)) : Bs e.r.bytes := by
  obtain ⟨⟨i, hi⟩, -⟩ := atR_mem hm
  exact (h.regs i e hi).ok.bs
theorem read_len (h : MIx w F g es nx) {a n : Int} (hn : 1 ≤ n) (h0 : (readS es a n).1 = 0) : (readS es a n).2.length = n.toNat ∧ Bs (readS es a n).2 := by
  unfold readS at h0 ⊢
  rw [if_neg (by omega), if_neg (by omega)] at h0 ⊢
  cases hm : atR es a n with
  | none => rw [hm] at h0; exact absurd h0 (by simp)
  | some ed =>
    obtain ⟨e, d⟩ := ed
    rw [hm] at h0
    simp only at h0 ⊢
    split at h0
    · exact absurd h0 (by simp)
    · rename_i hp
      rw [if_neg hp]
      split at h0
      · rename_i ho
        rw [if_pos ho]
        have := (at_len hm hn).1
        refine ⟨by simp only [List.length_take, List.length_drop]; omega, fun x hx => h.bytes hm x (List.mem_of_mem_drop (List.mem_of_mem_take hx))⟩
      · exact absurd h0 (by simp)
theorem Load_ (h : MIx w F g es nx) (a s : Int) (ha : 0 ≤ a ∧ a < 18446744073709551616) :
    Calls Try.prog 16 #[.pointer (some ⟨g, 0, none⟩), .int .u64 a, .int .i64 s] w fun x w' => x = .returned (.tuple #[.int .u64 (loadS es a s).2, .int .i64 (loadS es a s).1]) ∧ Below w.heap.size w w' := by
  by_cases hs : okSize s
  · rw [loadS_of hs]
    have hn : 1 ≤ s := by unfold okSize at hs; omega
    have hC := Read_ h a s ha
    by_cases h0 : (readS es a s).1 = 0
    · rw [if_pos h0]
      obtain ⟨hl, hb⟩ := read_len h hn h0
      refine Load_ok g a s _ (readS es a s).2 w hs (by omega) (Num_ _ hb (by unfold okSize at hs; omega)) (hC.mono fun x w' ⟨v, e1, e2, e3, _⟩ => ?_)
      rcases e2 with ⟨e4, -⟩ | ⟨b, c, rfl, k1, k2, k3⟩
      · rw [e4] at hl; simp at hl; omega
      · rw [h0] at e1
        exact ⟨b, c, e1, k1, k3, e3⟩
    · rw [if_neg h0]
      refine (Load_fail g a s _ w hs h0 (hC.mono fun x w' ⟨v, e1, e2, e3, e4⟩ => ?_)).mono fun x w' ⟨e1, e2⟩ => ⟨e1, e2 ▸ Below.refl _ _⟩
      obtain ⟨rfl, e5⟩ := e4 h0
      exact ⟨e1, e5⟩
  · have e : loadS es a s = (2, 0) := by unfold loadS; rw [if_pos hs]
    rw [e]
    unfold okSize at hs
    exact (Load_arg g a s w (by omega) (by omega) (by omega) (by omega)).mono fun x w' ⟨e1, e2⟩ => ⟨e1, e2 ▸ Below.refl _ _⟩
end
end Go.Proofs.Ytpjgaacdohiomaa.MemC
