/- Plain: which instructions are plain: the program and the document say the same of every list and place. -/
import Derived.Test.YtiekhgllnpgjcaaPInsnPlainx
import Derived.OpenShut
namespace Go.Proofs.Ytiekhgllnpgjcaa.Pure
open Go.RowKit Go.Proofs.Ytiekhgllnpgjcaa.PInsnPlain Go.Proofs.YtiekhgllnpgjcaaW.PrintWords Go.Proofs.YtiekhgllnpgjcaaW.PrintLast
set_option linter.unusedSimpArgs false

namespace InsnPlainParts
/-- Is the operation known; which fields it uses. -/
def kn (o : Int) : Bool := (insn_Known.f 12 o).getD false
def us (o : Int) : Bool × Bool × Bool × Bool := (posternref02_Uses.f 12 o).getD (false, false, false, false)
def z (b : Bool) (x : Int) : Int := if b then 0 else x

theorem all_known : ∀ n : Fin 256, insn_Known.f 12 ((n.val : Nat) : Int) = some (kn ((n.val : Nat) : Int)) ∧ posternref02_Known.f 12 ((n.val : Nat) : Int) = some (kn ((n.val : Nat) : Int)) := by decide +kernel
/-- The fields that 'without' strikes are the ones that are used. -/
def okw (o : Int) : Bool :=
  match posternref02_Uses.f 12 o, insn_without.f 12 o 1 1 1 1 with
  | some (u0, u1, u2, u3), some (a, b, c, d, e) => a == o && (b == z u0 1 && (c == z u1 1 && (d == z u2 1 && e == z u3 1)))
  | _, _ => false
theorem all_w : ∀ n : Fin 256, (!kn ((n.val : Nat) : Int) || okw ((n.val : Nat) : Int)) = true := by decide +kernel
theorem all_uses (o : Int) (h : okw o = true) : posternref02_Uses.f 12 o = some (us o) ∧ insn_without.f 12 o 1 1 1 1 = some (o, z (us o).1 1, z (us o).2.1 1, z (us o).2.2.1 1, z (us o).2.2.2 1) := by
  unfold okw at h
  cases hu : posternref02_Uses.f 12 o with
  | none => rw [hu] at h; simp at h
  | some u =>
    obtain ⟨u0, u1, u2, u3⟩ := u
    have e : us o = (u0, u1, u2, u3) := by unfold us; rw [hu]; rfl
    rw [hu] at h
    cases hw : insn_without.f 12 o 1 1 1 1 with
    | none => rw [hw] at h; simp at h
    | some r =>
      obtain ⟨a, b, c, d, f⟩ := r
      rw [hw] at h
      simp only [Bool.and_eq_true, beq_iff_eq] at h
      obtain ⟨h1, h2, h3, h4, h5⟩ := h
      rw [e, h1, h2, h3, h4, h5]
      exact ⟨rfl, rfl⟩
theorem lin_j1 (k : Nat) (o : Int) : ∀ b d s f m d' s' f' m', insn_without.j1 (k + 1) b o (d' * d) (s' * s) (f' * f) (m' * m) = (insn_without.j1 (k + 1) b o d' s' f' m').map fun r => (r.1, r.2.1 * d, r.2.2.1 * s, r.2.2.2.1 * f, r.2.2.2.2 * m) := by
  intro b d s f m d' s' f' m'
  rw [insn_without.j1, insn_without.j1]
  unfold insn_Kind.f insn_ByReg.f
  repeat rw [Option.bind_some]
  generalize (Go.bits .and .u8 o 8 != 0) = p
  generalize wrap64 (Go.bits .and .u8 o 240) = q
  cases b
  · simp only [Bool.false_eq_true, if_false]
    by_cases h1 : o = 5
    · rw [if_pos h1, if_pos h1]; simp
    · rw [if_neg h1, if_neg h1]
      by_cases h2 : o = 133
      · rw [if_pos h2, if_pos h2]; simp
      · rw [if_neg h2, if_neg h2]
        by_cases h3 : o = 149
        · rw [if_pos h3, if_pos h3]; simp
        · rw [if_neg h3, if_neg h3]
          cases p <;> simp
  · rw [if_pos rfl, if_pos rfl]
    by_cases h1 : q = 128
    · rw [if_pos h1, if_pos h1]; simp
    · rw [if_neg h1, if_neg h1]
      cases p <;> simp
theorem lin_j0 (k : Nat) (o d s f m : Int) : ∀ c b, insn_without.j0 (k + 2) c b o d s f m = (insn_without.j0 (k + 2) c b o 1 1 1 1).map fun r => (r.1, r.2.1 * d, r.2.2.1 * s, r.2.2.2.1 * f, r.2.2.2.2 * m) := by
  intro c b
  have J := fun b => lin_j1 k o b d s f m 1 1 1 1
  simp only [Int.one_mul] at J
  rw [insn_without.j0, insn_without.j0]
  cases b
  · simp only [Bool.false_eq_true, if_false]
    by_cases h1 : c = 2
    · rw [if_pos h1, if_pos h1]; simp
    · rw [if_neg h1, if_neg h1]
      by_cases h2 : c = 4
      · rw [if_pos h2, if_pos h2]; exact J true
      · rw [if_neg h2, if_neg h2]; exact J (c == 7)
  · rw [if_pos rfl, if_pos rfl]; simp
theorem without_lin (k : Nat) (o d s f m : Int) : insn_without.f (k + 2) o d s f m = (insn_without.f (k + 2) o 1 1 1 1).map fun r => (r.1, r.2.1 * d, r.2.2.1 * s, r.2.2.2.1 * f, r.2.2.2.2 * m) := by
  unfold insn_without.f insn_Class.f
  repeat rw [Option.bind_some]
  generalize wrap64 (Go.bits .and .u8 o 7) = c
  by_cases h0 : c = 0
  · rw [if_pos h0, if_pos h0]; simp
  · rw [if_neg h0, if_neg h0]
    by_cases h1 : c = 1
    · rw [if_pos h1, if_pos h1]; exact lin_j0 k o d s f m _ _
    · rw [if_neg h1, if_neg h1]; exact lin_j0 k o d s f m _ _

/-- The fields are not as they must be. -/
def bad (u : Bool × Bool × Bool × Bool) (d s f m : Int) : Bool := decide ((u.1 = false ∧ d ≠ 0) ∨ (u.2.1 = false ∧ s ≠ 0) ∨ (u.2.2.1 = false ∧ f ≠ 0) ∨ (u.2.2.2 = false ∧ m ≠ 0) ∨ d > 10 ∨ s > 10)
theorem leaf {α : Type} (J : Bool → α) (u : Bool × Bool × Bool × Bool) (o d s f m : Int) :
    (if (!(o == o) || (!(z u.1 1 * d == 0) || (!(z u.2.1 1 * s == 0) || (!(z u.2.2.1 1 * f == 0) || (!(z u.2.2.2 1 * m == 0)))))) = true then J true else (if d > 10 then J true else J (decide (s > 10)))) = J (bad u d s f m) := by
  obtain ⟨u0, u1, u2, u3⟩ := u
  have hz : ∀ b x, z b 1 * x = z b x := fun b x => by cases b <;> simp [z]
  rw [hz, hz, hz, hz]
  by_cases hb : bad (u0, u1, u2, u3) d s f m = true
  · rw [hb]
    have hb := of_decide_eq_true hb
    by_cases h1 : (!(o == o) || (!(z u0 d == 0) || (!(z u1 s == 0) || (!(z u2 f == 0) || (!(z u3 m == 0)))))) = true
    · rw [if_pos h1]
    · rw [if_neg h1]
      by_cases h2 : d > 10
      · rw [if_pos h2]
      · rw [if_neg h2]
        congr 1
        refine decide_eq_true ?_
        simp only [beq_self_eq_true, Bool.not_true, Bool.false_or, Bool.or_eq_true, Bool.not_eq_true', beq_eq_false_iff_ne, not_or, Decidable.not_not] at h1
        obtain ⟨g0, g1, g2, g3⟩ := h1
        rcases hb with ⟨rfl, h⟩ | ⟨rfl, h⟩ | ⟨rfl, h⟩ | ⟨rfl, h⟩ | h | h
        · exact absurd g0 h
        · exact absurd g1 h
        · exact absurd g2 h
        · exact absurd g3 h
        · exact absurd h h2
        · exact h
  · have hb' : bad (u0, u1, u2, u3) d s f m = false := by simpa using hb
    have hb := of_decide_eq_false hb'
    rw [hb']
    have g0 : z u0 d = 0 := by cases u0 <;> simp only [z, if_true, Bool.false_eq_true, if_false]; exact Decidable.byContradiction fun h => hb (.inl ⟨rfl, h⟩)
    have g1 : z u1 s = 0 := by cases u1 <;> simp only [z, if_true, Bool.false_eq_true, if_false]; exact Decidable.byContradiction fun h => hb (.inr (.inl ⟨rfl, h⟩))
    have g2 : z u2 f = 0 := by cases u2 <;> simp only [z, if_true, Bool.false_eq_true, if_false]; exact Decidable.byContradiction fun h => hb (.inr (.inr (.inl ⟨rfl, h⟩)))
    have g3 : z u3 m = 0 := by cases u3 <;> simp only [z, if_true, Bool.false_eq_true, if_false]; exact Decidable.byContradiction fun h => hb (.inr (.inr (.inr (.inl ⟨rfl, h⟩))))
    rw [g0, g1, g2, g3, if_neg (by simp), if_neg (fun h => hb (.inr (.inr (.inr (.inr (.inl h)))))), decide_eq_false (fun h => hb (.inr (.inr (.inr (.inr (.inr h))))))]
theorem ref_leaf {α : Type} (J : Bool → α) (u : Bool × Bool × Bool × Bool) (d s f m : Int) :
    (if u.1 = true then (if d > 10 then J true else (if u.2.1 = true then (if s > 10 then J true else (if u.2.2.1 = true then (if u.2.2.2 = true then J false else J (m != 0)) else (if f = 0 then (if u.2.2.2 = true then J false else J (m != 0)) else J true))) else (if s = 0 then (if u.2.2.1 = true then (if u.2.2.2 = true then J false else J (m != 0)) else (if f = 0 then (if u.2.2.2 = true then J false else J (m != 0)) else J true)) else J true)))
      else (if d = 0 then (if u.2.1 = true then (if s > 10 then J true else (if u.2.2.1 = true then (if u.2.2.2 = true then J false else J (m != 0)) else (if f = 0 then (if u.2.2.2 = true then J false else J (m != 0)) else J true))) else (if s = 0 then (if u.2.2.1 = true then (if u.2.2.2 = true then J false else J (m != 0)) else (if f = 0 then (if u.2.2.2 = true then J false else J (m != 0)) else J true)) else J true)) else J true)) = J (bad u d s f m) := by
  obtain ⟨u0, u1, u2, u3⟩ := u
  have r3 : (if u3 = true then J false else J (m != 0)) = J (decide (u3 = false ∧ m ≠ 0)) := by
    cases u3
    · rw [if_neg (by decide)]; congr 1; rw [Bool.eq_iff_iff, bne_iff_ne]; simp
    · rw [if_pos rfl]; simp
  have r2 : (if u2 = true then J (decide (u3 = false ∧ m ≠ 0)) else (if f = 0 then J (decide (u3 = false ∧ m ≠ 0)) else J true)) = J (decide ((u2 = false ∧ f ≠ 0) ∨ (u3 = false ∧ m ≠ 0))) := by
    cases u2
    · rw [if_neg (by decide)]
      by_cases h : f = 0
      · rw [if_pos h]; simp [h]
      · rw [if_neg h]; simp [h]
    · rw [if_pos rfl]; simp
  have r1 : (if u1 = true then (if s > 10 then J true else J (decide ((u2 = false ∧ f ≠ 0) ∨ (u3 = false ∧ m ≠ 0)))) else (if s = 0 then J (decide ((u2 = false ∧ f ≠ 0) ∨ (u3 = false ∧ m ≠ 0))) else J true)) = J (decide ((u1 = false ∧ s ≠ 0) ∨ s > 10 ∨ (u2 = false ∧ f ≠ 0) ∨ (u3 = false ∧ m ≠ 0))) := by
    cases u1
    · rw [if_neg (by decide)]
      by_cases h : s = 0
      · rw [if_pos h]; congr 1; rw [decide_eq_decide]; simp [h]
      · rw [if_neg h]; simp [h]
    · rw [if_pos rfl]
      by_cases h : s > 10
      · rw [if_pos h]; simp [h]
      · rw [if_neg h]; congr 1; rw [decide_eq_decide]; simp [h]
  dsimp only
  rw [r3, r2, r1]
  cases u0
  · rw [if_neg (by decide)]
    by_cases h : d = 0
    · rw [if_pos h]
      congr 1
      unfold bad
      rw [decide_eq_decide]
      constructor
      · rintro (g | g | g | g)
        · exact .inr (.inl g)
        · exact .inr (.inr (.inr (.inr (.inr g))))
        · exact .inr (.inr (.inl g))
        · exact .inr (.inr (.inr (.inl g)))
      · rintro (g | g | g | g | g | g)
        · exact absurd h g.2
        · exact .inl g
        · exact .inr (.inr (.inl g))
        · exact .inr (.inr (.inr g))
        · omega
        · exact .inr (.inl g)
    · rw [if_neg h]; congr 1; unfold bad; exact (decide_eq_true (.inl ⟨rfl, h⟩)).symm
  · rw [if_pos rfl]
    by_cases h : d > 10
    · rw [if_pos h]; congr 1; unfold bad; exact (decide_eq_true (.inr (.inr (.inr (.inr (.inl h)))))).symm
    · rw [if_neg h]
      congr 1
      unfold bad
      rw [decide_eq_decide]
      constructor
      · rintro (g | g | g | g)
        · exact .inr (.inl g)
        · exact .inr (.inr (.inr (.inr (.inr g))))
        · exact .inr (.inr (.inl g))
        · exact .inr (.inr (.inr (.inl g)))
      · rintro (g | g | g | g | g | g)
        · exact absurd g.1 (by simp)
        · exact .inl g
        · exact .inr (.inr (.inl g))
        · exact .inr (.inr (.inr g))
        · exact absurd g h
        · exact .inr (.inl g)

theorem tail (k : Nat) (l : List S24) (hl : (l.length : Int) ≤ 1000000000000000000) (i : Int) (h0 : 0 ≤ i) (h1 : i < (l.length : Int)) (b : Bool) (o d s f m : Int) :
    insn_Plain.j1 (k + 2) l i b o d s f m = posternref02_Plain.j1 (k + 2) l i b o d s f m := by
  have hw : wrap64 (i + 1) = i + 1 := by unfold wrap64; omega
  have hw2 : wrap64 ((l.length : Int) - 1) = (l.length : Int) - 1 := by unfold wrap64; omega
  simp only [insn_Plain.j1, posternref02_Plain.j1]
  cases b
  · simp only [Bool.false_eq_true, if_false]
    by_cases c1 : o = 133
    · subst c1
      rw [if_pos rfl, if_pos rfl]
      simp only [insn_Plain.j2, posternref02_Plain.j2, insn_Wide.f, Option.bind_some]
      cases decide (s > 1) <;> simp
    · rw [if_neg c1, if_neg c1]
      by_cases c2 : o = 24
      · subst c2
        rw [if_pos rfl]
        simp only [insn_Plain.j2, posternref02_Plain.j2, insn_Wide.f, Option.bind_some, Bool.false_eq_true, if_false, beq_self_eq_true, if_true]
        by_cases c3 : s > 1
        · rw [if_pos c3, decide_eq_true c3, if_pos rfl]
        · rw [if_neg c3, decide_eq_false c3, hw, hw2]
          simp only [Bool.false_eq_true, if_false]
          by_cases c4 : i + 1 ≥ (l.length : Int)
          · rw [if_pos c4, if_pos (by omega)]
          · rw [if_neg c4, if_neg (show ¬ i = (l.length : Int) - 1 by omega), if_pos (show 0 ≤ i + 1 by omega), if_pos (show i + 1 < (l.length : Int) by omega), if_pos (show 0 ≤ i + 1 by omega), if_pos (show i + 1 < (l.length : Int) by omega)]
            generalize rd_T24 l (i + 1) = n
            by_cases e0 : n.f0 = 0
            · by_cases e1 : n.f1 = 0
              · by_cases e2 : n.f2 = 0
                · by_cases e3 : n.f3 = 0
                  · simp [e0, e1, e2, e3]
                  · simp [e0, e1, e2, e3]
                · simp [e0, e1, e2]
              · simp [e0, e1]
            · simp [e0]
      · rw [if_neg c2]
        simp only [insn_Plain.j2, posternref02_Plain.j2, insn_Wide.f, Option.bind_some, Bool.false_eq_true, if_false]
        rw [beq_eq_false_iff_ne.mpr c2, if_neg c2]
        simp
  · simp

theorem same (K : Nat) (hK : K + 2 = 12) (l : List S24) (hl : (l.length : Int) ≤ 1000000000000000000) (i : Int) (hw : ∀ x ∈ l, (Lit.int .u8 x.f0).wf = true) : ∃ t : Int × Int, insn_Plain.f (K + 3) l i = some t ∧ posternref02_Plain.f (K + 3) l i = some t := by
  unfold insn_Plain.f posternref02_Plain.f
  by_cases h0 : i < 0
  · rw [if_pos h0, if_pos h0]
    exact ⟨(0, 2), by simp only [insn_Plain.j0, if_true], by simp only [posternref02_Plain.j0, if_true]⟩
  · rw [if_neg h0, if_neg h0]
    by_cases h1 : i ≥ (l.length : Int)
    · rw [decide_eq_true h1]
      exact ⟨(0, 2), by simp only [insn_Plain.j0, if_true], by simp only [posternref02_Plain.j0, if_true]⟩
    · rw [decide_eq_false h1, insn_Plain.j0, posternref02_Plain.j0]
      simp only [Bool.false_eq_true, if_false]
      rw [if_pos (show 0 ≤ i by omega), if_pos (show i < (l.length : Int) by omega), if_pos (show 0 ≤ i by omega), if_pos (show i < (l.length : Int) by omega)]
      have hmem : rd_T24 l i ∈ l := by
        have : i.toNat < l.length := by omega
        unfold rd_T24
        rw [List.getD_eq_getElem?_getD, List.getElem?_eq_getElem this]
        exact List.getElem_mem this
      obtain ⟨b0, b1⟩ := bounds_u8 (hw _ hmem)
      generalize rd_T24 l i = x at *
      obtain ⟨n, hn⟩ := Int.eq_ofNat_of_zero_le b0
      have hk := all_known ⟨n, by omega⟩
      have hu := all_w ⟨n, by omega⟩
      dsimp only at hk hu
      rw [show ((n : Nat) : Int) = x.f0 from hn.symm] at hk hu
      rw [← hK] at hk
      rw [show wrap64 x.f0 = x.f0 by unfold wrap64; omega, hk.1, hk.2]
      repeat rw [Option.bind_some]
      by_cases hkn : kn x.f0 = true
      · obtain ⟨u1, u2⟩ := all_uses x.f0 (by rw [hkn] at hu; simpa using hu)
        rw [← hK] at u1 u2
        rw [if_pos hkn, if_pos hkn, u1, without_lin K, u2, Option.map_some]
        repeat rw [Option.bind_some]
        have e1 := leaf (fun b => insn_Plain.j1 (K + 2) l i b x.f0 x.f1 x.f2 x.f3 x.f4) (us x.f0) x.f0 x.f1 x.f2 x.f3 x.f4
        have e2 := ref_leaf (fun b => posternref02_Plain.j1 (K + 2) l i b x.f0 x.f1 x.f2 x.f3 x.f4) (us x.f0) x.f1 x.f2 x.f3 x.f4
        rw [e1, e2, tail K l hl i (by omega) (by omega)]
        obtain ⟨t, ht⟩ : ∃ t, posternref02_Plain.j1 (K + 2) l i (bad (us x.f0) x.f1 x.f2 x.f3 x.f4) x.f0 x.f1 x.f2 x.f3 x.f4 = some t := by
          generalize bad (us x.f0) x.f1 x.f2 x.f3 x.f4 = b
          have j2 : ∀ b, ∃ t, posternref02_Plain.j2 (K + 1) l i b x.f0 x.f1 x.f2 x.f3 x.f4 = some t := by
            intro b
            have hw : wrap64 (i + 1) = i + 1 := by unfold wrap64; omega
            have hw2 : wrap64 ((l.length : Int) - 1) = (l.length : Int) - 1 := by unfold wrap64; omega
            simp only [posternref02_Plain.j2]
            cases b
            · simp only [Bool.false_eq_true, if_false]
              by_cases c2 : x.f0 = 24
              · rw [if_pos c2, hw, hw2]
                by_cases c4 : i = (l.length : Int) - 1
                · rw [if_pos c4]; exact ⟨_, rfl⟩
                · rw [if_neg c4, if_pos (by omega), if_pos (by omega)]
                  generalize rd_T24 l (i + 1) = n
                  by_cases e0 : n.f0 = 0
                  · rw [if_pos e0]
                    by_cases e1 : n.f1 = 0
                    · rw [if_pos e1]
                      by_cases e2 : n.f2 = 0
                      · rw [if_pos e2]
                        by_cases e3 : n.f3 = 0
                        · rw [if_pos e3]; exact ⟨_, rfl⟩
                        · rw [if_neg e3]; exact ⟨_, rfl⟩
                      · rw [if_neg e2]; exact ⟨_, rfl⟩
                    · rw [if_neg e1]; exact ⟨_, rfl⟩
                  · rw [if_neg e0]; exact ⟨_, rfl⟩
              · rw [if_neg c2]; exact ⟨_, rfl⟩
            · exact ⟨(0, 42), by simp⟩
          simp only [posternref02_Plain.j1]
          cases b
          · simp only [Bool.false_eq_true, if_false]
            by_cases c1 : x.f0 = 133
            · rw [if_pos c1]; exact j2 _
            · rw [if_neg c1]
              by_cases c2 : x.f0 = 24
              · rw [if_pos c2]; exact j2 _
              · rw [if_neg c2]; exact j2 _
          · exact ⟨(0, 42), by simp⟩
        exact ⟨t, ht, ht⟩
      · rw [if_neg hkn, if_neg hkn]
        exact ⟨_, rfl, rfl⟩
end InsnPlainParts
open InsnPlainParts

theorem first_true : posternlaw02_first.f 13 = some true := by decide +kernel

theorem InsnPlain (l0 : List S24) (a1 : Int) (hl : l0.length * 12 ≤ 140737488351232) (hw : ∀ s ∈ l0, (Lit.int .u8 s.f0).wf = true ∧ (Lit.int .u8 s.f1).wf = true ∧ (Lit.int .u8 s.f2).wf = true ∧ (Lit.int .i16 s.f3).wf = true ∧ (Lit.int .i32 s.f4).wf = true) (_ : (Lit.int .i64 a1).wf = true) :
    ∃ k, posternlaw02_InsnPlain.f k l0 a1 = some true := by
  obtain ⟨t, h1, h2⟩ := same 10 rfl l0 (by omega) a1 (fun x hx => (hw x hx).1)
  refine ⟨13, ?_⟩
  unfold posternlaw02_InsnPlain.f
  rw [first_true, Option.bind_some, if_pos rfl, h1, h2, Option.bind_some, Option.bind_some]
  simp
end Go.Proofs.Ytiekhgllnpgjcaa.Pure
