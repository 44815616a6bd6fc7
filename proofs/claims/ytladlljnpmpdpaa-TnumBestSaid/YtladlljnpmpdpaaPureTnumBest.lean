/- Plain: sums, differences, bitwise operations, shifts by constants lose nothing, in tnums; constants give constants. -/
import Derived.Test.YtladlljnpmpdpaaTnBestTnumBest
namespace Go.Proofs.Ytladlljnpmpdpaa.Pure
open Go.RowKit Go.Proofs.Ytladlljnpmpdpaa.PTnumBest Go.Proofs.YtladlljnpmpdpaaW.PrintWords Go.Proofs.YtladlljnpmpdpaaW.PrintLast Go.Proofs.YtladlljnpmpdpaaW.PrintMore
open Go.Proofs.Ytladlljnpmpdpaa.Num Go.Proofs.Ytladlljnpmpdpaa.DoTnumBest Go.Proofs.Ytladlljnpmpdpaa.Bv Go.Proofs.Ytladlljnpmpdpaa.Tn Go.Proofs.Ytladlljnpmpdpaa.TnDoTnumBest Go.Proofs.Ytladlljnpmpdpaa.TnBestTnumBest

namespace TnumBestParts
theorem mem_cut {w : Bool} {v m x : W} (h : Mem (inp w v) (inp w m) x) : inp w x = x := by
  cases w with
  | true => rfl
  | false =>
    have c : ∀ z : W, ∀ i, (inp false z).getLsbD i = (z.getLsbD i && (4294967295#64).getLsbD i) := fun z i => by show (lo z).getLsbD i = _; unfold lo; rw [BitVec.getLsbD_and]
    refine eq_of_bits fun i _ => ?_
    rw [c]
    cases e : (4294967295#64).getLsbD i with
    | true => simp
    | false =>
      rw [h i (by rw [c, e]; simp), c, e]; simp

theorem core_best (k : Nat) (hk : 200 ≤ k) (x0 : Int) (hx0 : x0 ∈ ops) (w : Bool) (c : Bool) (av am bv bm a1 a2 b1 b2 rv rm : W) (ta : Tidy a1 a2) (tb : Tidy b1 b2)
    (la : ∀ x, Mem a1 a2 x → ∃ z, Mem av am z ∧ inp w z = x) (lb : x0 ≠ 128 → ∀ y, Mem b1 b2 y → ∃ z, Mem bv bm z ∧ inp w z = y)
    (hb : c = true ∨ x0 ∈ ([0, 16, 64, 80, 160, 128, 176] : List Int) ∨ (x0 ∈ ([96, 112] : List Int) ∧ b2 = 0#64)) (h128 : x0 = 128 → b1 = a1 ∧ b2 = a2)
    (he : tnum_Do.j3 k x0 w c (a1.toNat : Int) (a2.toNat : Int) (b1.toNat : Int) (b2.toNat : Int) = some ((rv.toNat : Int), (rm.toNat : Int), 0)) (i : Nat) (hi : i < 64) (hm : rm.getLsbD i = true) :
    Both av am bv bm (res x0 w) i := by
  obtain ⟨k, rfl⟩ : ∃ q, k = q + 1 := ⟨k - 1, by omega⟩
  simp only [tnum_Do.j3] at he
  cases c with
  | true =>
    rw [if_pos rfl, alu_const x0 hx0] at he
    simp only [Option.bind_some, tnum_Const.f, Option.some.injEq, Prod.mk.injEq] at he
    have := (c_eq0 rm).1 he.2.1.symm
    subst this
    rw [BitVec.getLsbD_zero] at hm
    cases hm
  | false =>
    have hb' : x0 ∈ ([0, 16, 64, 80, 160, 128, 176] : List Int) ∨ (x0 ∈ ([96, 112] : List Int) ∧ b2 = 0#64) := by
      rcases hb with h | h
      · cases h
      · exact h
    obtain ⟨pv, pm, e, _, _⟩ := do_sound k (by omega) x0 hx0 w a1 a2 b1 b2 ta tb
    rw [if_neg (by decide), e] at he
    simp only [Option.bind_some] at he
    have hrm : rm = inp w pm := by
      cases w with
      | true =>
        rw [if_pos rfl] at he
        simp only [Option.some.injEq, Prod.mk.injEq] at he
        exact ((c_eq _ _).1 he.2.1).symm
      | false =>
        rw [if_neg (by decide), f_cut] at he
        simp only [Option.bind_some, Option.some.injEq, Prod.mk.injEq] at he
        exact ((c_eq _ _).1 he.2.1).symm
    subst hrm
    have hs : ¬ x0 ∈ ([48, 144, 192] : List Int) := by
      simp only [List.mem_cons, List.not_mem_nil, or_false] at hb' ⊢
      omega
    have hpm := (inp_bit (z := pm) hm).1
    obtain ⟨⟨x, y, hx, hy, h⟩, ⟨x', y', hx', hy', h'⟩⟩ := do_best k (by omega) x0 w a1 a2 b1 b2 pv pm ta tb hb' h128 e i hi hpm
    have lift : ∀ {x y : W} {q : Bool}, Mem a1 a2 x → Mem b1 b2 y → (opb x0 (y.toNat % (if w then 64 else 32)) x y).getLsbD i = q → ∃ p r, Mem av am p ∧ Mem bv bm r ∧ (res x0 w p r).getLsbD i = q := by
      intro x y q hx hy h
      obtain ⟨p, hp, rfl⟩ := la x hx
      by_cases e8 : x0 = 128
      · subst e8
        refine ⟨p, bv, hp, mem_self _ _, ?_⟩
        rw [res_op 128 hx0 w p bv hs, (inp_bit (r := pm) hm).2]
        exact h
      · obtain ⟨r, hr, rfl⟩ := lb e8 y hy
        refine ⟨p, r, hp, hr, ?_⟩
        rw [res_op x0 hx0 w p r hs, (inp_bit (r := pm) hm).2]
        exact h
    obtain ⟨p, r, h1, h2, h3⟩ := lift hx hy h
    obtain ⟨p', r', h1', h2', h3'⟩ := lift hx' hy' h'
    exact ⟨⟨p, r, h1, h2, h3⟩, ⟨p', r', h1', h2', h3'⟩⟩

theorem Do_best (k : Nat) (hk : 210 ≤ k) (x0 : Int) (hx0 : x0 ∈ ops) (w : Bool) (av am bv bm rv rm : W) (hb : Bst x0 am bm)
    (he : tnum_Do.f k x0 w (av.toNat : Int) (am.toNat : Int) (bv.toNat : Int) (bm.toNat : Int) = some ((rv.toNat : Int), (rm.toNat : Int), 0)) (i : Nat) (hi : i < 64) (hm : rm.getLsbD i = true) :
    Both av am bv bm (res x0 w) i := by
  obtain ⟨k, rfl⟩ : ∃ q, k = q + 3 := ⟨k - 3, by omega⟩
  have start : tnum_Do.f (k + 3) x0 w (av.toNat : Int) (am.toNat : Int) (bv.toNat : Int) (bm.toNat : Int) = tnum_Do.j0 (k + 3) x0 w ((inp w (av &&& ~~~am)).toNat : Int) ((inp w am).toNat : Int) ((inp w (bv &&& ~~~bm)).toNat : Int) ((inp w bm).toNat : Int) := by
    have h0 := alu_const x0 hx0 w 0#64 0#64
    rw [c_zero] at h0
    unfold tnum_Do.f
    rw [h0, f_tidy]
    simp only [Option.bind_some, if_true]
    rw [f_tidy]
    simp only [Option.bind_some]
    cases w with
    | true => rw [if_pos rfl]; rfl
    | false =>
      rw [if_neg (by decide), f_cut]
      simp only [Option.bind_some]
      rw [f_cut]
      rfl
  rw [start] at he
  have ta := tidy_inp (w := w) (tidy_andNot av am)
  have tb := tidy_inp (w := w) (tidy_andNot bv bm)
  have la : ∀ x, Mem (inp w (av &&& ~~~am)) (inp w am) x → ∃ z, Mem av am z ∧ inp w z = x := fun x h => by
    obtain ⟨z, h1, h2⟩ := raise h (mem_cut h)
    exact ⟨z, mem_andNot.1 h1, h2⟩
  have lb : ∀ x, Mem (inp w (bv &&& ~~~bm)) (inp w bm) x → ∃ z, Mem bv bm z ∧ inp w z = x := fun x h => by
    obtain ⟨z, h1, h2⟩ := raise h (mem_cut h)
    exact ⟨z, mem_andNot.1 h1, h2⟩
  have za : am = 0#64 → inp w am = 0#64 := fun h => by subst h; cases w <;> rfl
  have zb : bm = 0#64 → inp w bm = 0#64 := fun h => by subst h; cases w <;> rfl
  generalize inp w (av &&& ~~~am) = a1 at *
  generalize inp w am = a2 at *
  generalize inp w (bv &&& ~~~bm) = b1 at *
  generalize inp w bm = b2 at *
  by_cases h128 : x0 = 128
  · subst h128
    simp only [tnum_Do.j0, tnum_Do.j1, if_true, tnum_Do.j2] at he
    by_cases hz : a2 = 0#64
    · subst hz
      rw [c_zero, if_pos rfl, if_pos rfl] at he
      exact core_best k (by omega) 128 hx0 w true av am bv bm a1 0#64 a1 0#64 rv rm ta ta la (fun h => absurd rfl h) (Or.inl rfl) (fun _ => ⟨rfl, rfl⟩) he i hi hm
    · rw [if_neg (fun e => hz ((c_eq0 a2).1 e))] at he
      exact core_best k (by omega) 128 hx0 w false av am bv bm a1 a2 a1 a2 rv rm ta ta la (fun h => absurd rfl h) (Or.inr (Or.inl (by decide))) (fun _ => ⟨rfl, rfl⟩) he i hi hm
  · simp only [tnum_Do.j0, if_neg h128, tnum_Do.j1, tnum_Do.j2] at he
    have hb2 : x0 ∈ ([0, 16, 64, 80, 160, 128, 176] : List Int) ∨ (x0 ∈ ([96, 112] : List Int) ∧ b2 = 0#64) ∨ (a2 = 0#64 ∧ b2 = 0#64) := by
      rcases hb with h | ⟨h, h0⟩ | ⟨h1, h2⟩
      · exact Or.inl h
      · exact Or.inr (Or.inl ⟨h, zb h0⟩)
      · exact Or.inr (Or.inr ⟨za h1, zb h2⟩)
    by_cases hz : b2 = 0#64
    · subst hz
      rw [c_zero, if_pos rfl] at he
      by_cases hy : a2 = 0#64
      · subst hy
        rw [c_zero, if_pos rfl] at he
        exact core_best k (by omega) x0 hx0 w true av am bv bm a1 0#64 b1 0#64 rv rm ta tb la (fun _ => lb) (Or.inl rfl) (fun h => absurd h h128) he i hi hm
      · rw [if_neg (fun e => hy ((c_eq0 a2).1 e))] at he
        refine core_best k (by omega) x0 hx0 w (x0 == 176) av am bv bm a1 a2 b1 0#64 rv rm ta tb la (fun _ => lb) ?_ (fun h => absurd h h128) he i hi hm
        rcases hb2 with h | h | h
        · exact Or.inr (Or.inl h)
        · exact Or.inr (Or.inr h)
        · exact absurd h.1 hy
    · rw [if_neg (fun e => hz ((c_eq0 b2).1 e))] at he
      refine core_best k (by omega) x0 hx0 w false av am bv bm a1 a2 b1 b2 rv rm ta tb la (fun _ => lb) ?_ (fun h => absurd h h128) he i hi hm
      rcases hb2 with h | h | h
      · exact Or.inr (Or.inl h)
      · exact absurd h.2 hz
      · exact absurd h.2 hz

/-! ### All numbers that a tnum holds -/
/-- Held, with the unknown bits below i alone. -/
def Memi (v m : W) (i : Nat) (x : W) : Prop := ∀ j, j < 64 → (m.getLsbD j = false ∨ i ≤ j) → x.getLsbD j = (v &&& ~~~m).getLsbD j
def ints (l : List W) : List Int := l.map fun x => (x.toNat : Int)
theorem ints_len (l : List W) : (ints l).length = l.length := by simp [ints]
theorem ints_rd (l : List W) (i : Nat) (h : i < l.length) : rd (ints l) (i : Int) = ((l[i]).toNat : Int) := by
  unfold rd ints
  rw [Int.toNat_natCast, List.getD_eq_getElem?_getD, List.getElem?_map, List.getElem?_eq_getElem h]
  rfl
theorem memi_zero (v m x : W) : Memi v m 0 x ↔ x = v &&& ~~~m := by
  constructor
  · intro h; exact eq_of_bits fun i hi => h i hi (Or.inr (Nat.zero_le _))
  · rintro rfl j _ _; rfl
theorem memi_end (v m x : W) : Memi v m 64 x ↔ Mem v m x := by
  rw [← mem_andNot]
  constructor
  · intro h i hm
    by_cases hi : i < 64
    · exact h i hi (Or.inl hm)
    · rw [BitVec.getLsbD_of_ge _ i (by omega), BitVec.getLsbD_of_ge _ i (by omega)]
  · intro h j hj hh
    rcases hh with hh | hh
    · exact h j hh
    · omega
theorem memi_skip {v m : W} {i : Nat} (hm : m.getLsbD i = false) (x : W) : Memi v m i x ↔ Memi v m (i + 1) x := by
  constructor
  · intro h j hj hh; exact h j hj (by rcases hh with hh | hh; exact Or.inl hh; exact Or.inr (by omega))
  · intro h j hj hh
    rcases hh with hh | hh
    · exact h j hj (Or.inl hh)
    · by_cases e : j = i
      · subst e; exact h j hj (Or.inl hm)
      · exact h j hj (Or.inr (by omega))
theorem memi_step {v m : W} {i : Nat} (hi : i < 64) (hm : m.getLsbD i = true) (l : List W) (hl : ∀ x, x ∈ l ↔ Memi v m i x) (x : W) : x ∈ l ++ l.map (fun y => y ||| (1#64 <<< i)) ↔ Memi v m (i + 1) x := by
  have vi : (v &&& ~~~m).getLsbD i = false := by rw [BitVec.getLsbD_and, not_bit hi, hm]; simp
  rw [List.mem_append, List.mem_map]
  constructor
  · rintro (h | ⟨y, hy, rfl⟩)
    · intro j hj hh
      exact (hl x).1 h j hj (by rcases hh with hh | hh; exact Or.inl hh; exact Or.inr (by omega))
    · intro j hj hh
      have e : j ≠ i := by
        intro e; subst e
        rcases hh with hh | hh
        · rw [hm] at hh; cases hh
        · omega
      rw [one_bit _ _ _ hj]
      have := (hl y).1 hy j hj (by rcases hh with hh | hh; exact Or.inl hh; exact Or.inr (by omega))
      rw [this]
      simp [e]
  · intro h
    cases hx : x.getLsbD i with
    | false =>
      refine Or.inl ((hl x).2 fun j hj hh => ?_)
      by_cases e : j = i
      · subst e; rw [hx, vi]
      · exact h j hj (by rcases hh with hh | hh; exact Or.inl hh; exact Or.inr (by omega))
    | true =>
      have bit : ∀ j, j < 64 → (x &&& ~~~(1#64 <<< i)).getLsbD j = (x.getLsbD j && !decide (j = i)) := fun j hj => by
        have := one_bit 0#64 i j hj
        rw [BitVec.zero_or] at this
        rw [BitVec.getLsbD_and, not_bit hj, this]
        simp
      refine Or.inr ⟨x &&& ~~~(1#64 <<< i), (hl _).2 fun j hj hh => ?_, ?_⟩
      · rw [bit j hj]
        by_cases e : j = i
        · subst e; rw [vi]; simp
        · have := h j hj (by rcases hh with hh | hh; exact Or.inl hh; exact Or.inr (by omega))
          rw [this]; simp [e]
      · refine eq_of_bits fun j hj => ?_
        rw [one_bit _ _ _ hj, bit j hj]
        by_cases e : j = i
        · subst e; rw [hx]; simp
        · simp [e]

theorem wrap_i (i : Nat) (hi : i ≤ 64) : IntKind.u64.wrap (i : Int) = (i : Int) := by rw [IntKind.wrap_u64]; omega
theorem shl1 (i : Nat) (hi : i ≤ 64) : shl .u64 1 (i : Int) = ((1#64 <<< i).toNat : Int) := by
  have h := c_shl 1#64 i hi
  rw [show ((1#64).toNat : Int) = 1 from rfl] at h
  exact h
theorem bit_test (m : W) (i : Nat) (hi : i < 64) : (Go.bits .and .u64 (shr .u64 (m.toNat : Int) (i : Int)) 1 = 0) ↔ m.getLsbD i = false := by
  rw [c_shr m i (by omega), TnDoTnumBest.bit0, BitVec.getLsbD_ushiftRight, Nat.add_zero]

/-- The copies with bit i. -/
theorem all_l1 (v m : W) (i : Nat) (hi : i < 64) (l : List W) (hl : l.length < 64) (d : Nat) : ∀ k j : Nat, j ≤ l.length → l.length - j = d → d < k →
    posternref14_All.l1 k (ints (l ++ (l.take j).map fun y => y ||| (1#64 <<< i))) (i : Int) (l.length : Int) (j : Int) (v.toNat : Int) (m.toNat : Int) =
      posternref14_All.l0 (k - (d + 1)) (ints (l ++ l.map fun y => y ||| (1#64 <<< i))) ((i + 1 : Nat) : Int) (v.toNat : Int) (m.toNat : Int) := by
  induction d with
  | zero =>
    intro k j hj hd hk
    obtain ⟨k, rfl⟩ : ∃ q, k = q + 1 := ⟨k - 1, by omega⟩
    simp only [posternref14_All.l1]
    rw [if_neg (by omega), show wrap64 ((i : Int) + 1) = ((i + 1 : Nat) : Int) by unfold wrap64; omega, List.take_of_length_le (by omega)]
    rfl
  | succ d ih =>
    intro k j hj hd hk
    obtain ⟨k, rfl⟩ : ∃ q, k = q + 1 := ⟨k - 1, by omega⟩
    have hlen : (ints (l ++ (l.take j).map fun y => y ||| (1#64 <<< i))).length = l.length + j := by
      rw [ints_len, List.length_append, List.length_map, List.length_take]; omega
    have hr : rd (ints (l ++ (l.take j).map fun y => y ||| (1#64 <<< i))) (j : Int) = ((l[j]'(by omega)).toNat : Int) := by
      rw [ints_rd _ j (by rw [ints_len] at hlen; omega), List.getElem_append_left (by omega)]
    simp only [posternref14_All.l1]
    rw [if_pos (by omega), if_pos (by omega), if_pos (by rw [hlen]; omega), wrap_i i (by omega), if_pos (by omega), if_pos (by rw [hlen]; omega), hr, shl1 i (by omega), c_or]
    have e : ints (l ++ (l.take j).map fun y => y ||| (1#64 <<< i)) ++ [((l[j]'(by omega) ||| (1#64 <<< i)).toNat : Int)] = ints (l ++ (l.take (j + 1)).map fun y => y ||| (1#64 <<< i)) := by
      rw [List.take_succ_eq_append_getElem (by omega)]
      simp only [ints, List.map_append, List.map_cons, List.map_nil, List.append_assoc]
    rw [e, show wrap64 ((j : Int) + 1) = ((j + 1 : Nat) : Int) by unfold wrap64; omega, ih k (j + 1) (by omega) (by omega) (by omega)]
    rw [show k + 1 - (d + 1 + 1) = k - (d + 1) by omega]

theorem all_l0 (v m : W) (d : Nat) : ∀ (k i : Nat) (l : List W), i ≤ 64 → 64 - i = d → d * 70 + 1 < k → l.length ≤ 128 → (∀ x, x ∈ l ↔ Memi v m i x) →
    (∃ r : List W, posternref14_All.l0 k (ints l) (i : Int) (v.toNat : Int) (m.toNat : Int) = some (ints r, true) ∧ r.length ≤ 128 ∧ ∀ x, x ∈ r ↔ Mem v m x) ∨ ∃ r, posternref14_All.l0 k (ints l) (i : Int) (v.toNat : Int) (m.toNat : Int) = some (r, false) := by
  induction d with
  | zero =>
    intro k i l hi hd hk hn hl
    obtain ⟨k, rfl⟩ : ∃ q, k = q + 1 := ⟨k - 1, by omega⟩
    have : i = 64 := by omega
    subst this
    refine Or.inl ⟨l, ?_, hn, fun x => (hl x).trans (memi_end v m x)⟩
    simp only [posternref14_All.l0]
    rw [if_neg (by decide)]
  | succ d ih =>
    intro k i l hi hd hk hn hl
    obtain ⟨k, rfl⟩ : ∃ q, k = q + 1 := ⟨k - 1, by omega⟩
    have h64 : i < 64 := by omega
    simp only [posternref14_All.l0]
    rw [if_pos (by omega), wrap_i i (by omega), if_pos (by omega)]
    cases hm : m.getLsbD i with
    | false =>
      rw [if_pos ((bit_test m i h64).2 hm), show wrap64 ((i : Int) + 1) = ((i + 1 : Nat) : Int) by unfold wrap64; omega]
      exact ih k (i + 1) l (by omega) (by omega) (by omega) hn (fun x => (hl x).trans (memi_skip hm x))
    | true =>
      rw [if_neg (fun h => by rw [(bit_test m i h64).1 h] at hm; cases hm)]
      by_cases hlen : ((ints l).length : Int) ≥ 64
      · rw [if_pos hlen]
        exact Or.inr ⟨_, rfl⟩
      · rw [if_neg hlen]
        rw [ints_len] at hlen ⊢
        have h1 := all_l1 v m i h64 l (by omega) l.length k 0 (by omega) (by omega) (by omega)
        rw [List.take_zero, List.map_nil, List.append_nil] at h1
        rw [show (0 : Int) = ((0 : Nat) : Int) from rfl, h1]
        exact ih _ (i + 1) _ (by omega) (by omega) (by omega) (by rw [List.length_append, List.length_map]; omega) (memi_step h64 hm l hl)

theorem f_all (k : Nat) (hk : 5000 ≤ k) (v m : W) :
    (∃ r : List W, posternref14_All.f k (v.toNat : Int) (m.toNat : Int) = some (ints r, true) ∧ r.length ≤ 128 ∧ ∀ x, x ∈ r ↔ Mem v m x) ∨ ∃ r, posternref14_All.f k (v.toNat : Int) (m.toNat : Int) = some (r, false) := by
  unfold posternref14_All.f
  rw [c_andNot]
  exact all_l0 v m 64 k 0 [v &&& ~~~m] (by omega) (by omega) (by omega) (by simp) (fun x => by rw [memi_zero]; simp)

/-! ### All answers -/
theorem ref_res (k : Nat) (hk : 210 ≤ k) (x0 : Int) (hx : x0 ∈ ops) (w : Bool) (x y : W) : posternref05_Do.f k x0 (if w then 64 else 32) (x.toNat : Int) (y.toNat : Int) = some (((res x0 w x y).toNat : Int), true) := by
  rw [res_nat x0 hx]
  cases w with
  | true => rw [if_pos rfl, ref_Do64 k hk x0 hx x.isLt y.isLt]; rfl
  | false => rw [if_neg (by decide), ref_Do32 k hk x0 hx]; rfl

theorem im_l1 (x0 : Int) (hx : x0 ∈ ops) (w : Bool) (a b : List W) (x : W) (n : Nat) (hb : b.length ≤ 1024) (d : Nat) : ∀ (k j : Nat) (l : List W), j ≤ b.length → b.length - j = d → d + 300 < k → l.length + d ≤ 4096 →
    posternref14_Images.l1 k x0 (if w then 64 else 32) (ints b) (ints l) (x.toNat : Int) (ints a) (a.length : Int) (n : Int) (ints b) (b.length : Int) (j : Int) =
      posternref14_Images.l0 (k - (d + 1)) x0 (if w then 64 else 32) (ints b) (ints (l ++ (b.drop j).map (res x0 w x))) (ints a) (a.length : Int) (wrap64 ((n : Int) + 1)) := by
  induction d with
  | zero =>
    intro k j l hj hd hk hl
    obtain ⟨k, rfl⟩ : ∃ q, k = q + 1 := ⟨k - 1, by omega⟩
    simp only [posternref14_Images.l1]
    rw [if_neg (by omega), List.drop_eq_nil_of_le (by omega), List.map_nil, List.append_nil]
    rfl
  | succ d ih =>
    intro k j l hj hd hk hl
    obtain ⟨k, rfl⟩ : ∃ q, k = q + 1 := ⟨k - 1, by omega⟩
    simp only [posternref14_Images.l1]
    rw [if_pos (by omega), if_pos (by omega), if_pos (by rw [ints_len]; omega), ints_rd b j (by omega), ref_res k (by omega) x0 hx w]
    simp only [Option.bind_some]
    rw [if_pos (by rw [ints_len]; omega)]
    have e : ints l ++ [((res x0 w x (b[j]'(by omega))).toNat : Int)] = ints (l ++ [res x0 w x (b[j]'(by omega))]) := by simp [ints]
    rw [e, show wrap64 ((j : Int) + 1) = ((j + 1 : Nat) : Int) by unfold wrap64; omega, ih k (j + 1) _ (by omega) (by omega) (by omega) (by rw [List.length_append]; simp; omega)]
    rw [show k + 1 - (d + 1 + 1) = k - (d + 1) by omega, List.append_assoc, show b.drop j = b[j]'(by omega) :: b.drop (j + 1) from List.drop_eq_getElem_cons (by omega)]
    rfl
theorem im_l0 (x0 : Int) (hx : x0 ∈ ops) (w : Bool) (a b : List W) (ha : a.length ≤ 1024) (hb : b.length ≤ 1024) (d : Nat) : ∀ (k n : Nat) (l : List W), n ≤ a.length → a.length - n = d → d * (b.length + 2) + 400 + b.length < k → l.length + d * b.length ≤ 2048 →
    posternref14_Images.l0 k x0 (if w then 64 else 32) (ints b) (ints l) (ints a) (a.length : Int) (n : Int) = some (ints (l ++ (a.drop n).flatMap fun x => b.map (res x0 w x))) := by
  induction d with
  | zero =>
    intro k n l hn hd hk hl
    obtain ⟨k, rfl⟩ : ∃ q, k = q + 1 := ⟨k - 1, by omega⟩
    simp only [posternref14_Images.l0]
    rw [if_neg (by omega), List.drop_eq_nil_of_le (by omega)]
    simp
  | succ d ih =>
    intro k n l hn hd hk hl
    obtain ⟨k, rfl⟩ : ∃ q, k = q + 1 := ⟨k - 1, by omega⟩
    rw [Nat.add_mul, Nat.one_mul] at hk hl
    simp only [posternref14_Images.l0]
    have h1 := im_l1 x0 hx w a b (a[n]'(by omega)) n hb b.length k 0 l (by omega) (by omega) (by omega) (by omega)
    rw [List.drop_zero] at h1
    rw [if_pos (by omega), if_pos (by omega), if_pos (by rw [ints_len]; omega), ints_rd a n (by omega), ints_len, show (0 : Int) = ((0 : Nat) : Int) from rfl, h1]
    rw [show wrap64 ((n : Int) + 1) = ((n + 1 : Nat) : Int) by unfold wrap64; omega, ih _ (n + 1) _ (by omega) (by omega) (by omega) (by rw [List.length_append, List.length_map]; omega)]
    rw [show a.drop n = a[n]'(by omega) :: a.drop (n + 1) from List.drop_eq_getElem_cons (by omega), List.flatMap_cons, List.append_assoc]
theorem f_images (k : Nat) (hk : 8000 ≤ k) (x0 : Int) (hx : x0 ∈ ops) (w : Bool) (a b : List W) (h : a.length * b.length ≤ 1024) (ha0 : 0 < a.length) (hb0 : 0 < b.length) :
    posternref14_Images.f k x0 (if w then 64 else 32) (ints a) (ints b) = some (ints (a.flatMap fun x => b.map (res x0 w x))) := by
  have ha : a.length ≤ 1024 := Nat.le_trans (Nat.le_mul_of_pos_right _ hb0) h
  have hb : b.length ≤ 1024 := Nat.le_trans (Nat.le_mul_of_pos_left _ ha0) h
  unfold posternref14_Images.f
  rw [ints_len]
  have := im_l0 x0 hx w a b ha hb a.length k 0 [] (by omega) (by omega) (by rw [Nat.mul_add]; omega) (by simp; omega)
  rw [List.drop_zero, List.nil_append] at this
  exact this

/-! ### The best -/
theorem best_l0 (l : List W) (d : Nat) : ∀ (k i : Nat) (p q : W), i ≤ l.length → l.length - i = d → d < k → l.length ≤ 1024 →
    ∃ one zero : W, posternref14_Best.l0 k (p.toNat : Int) (q.toNat : Int) (ints l) (l.length : Int) (i : Int) = some ((one.toNat : Int), ((~~~one &&& ~~~zero).toNat : Int)) ∧
      (∀ j, j < 64 → (one.getLsbD j = true ↔ p.getLsbD j = true ∧ ∀ x ∈ l.drop i, x.getLsbD j = true)) ∧ (∀ j, j < 64 → (zero.getLsbD j = true ↔ q.getLsbD j = true ∧ ∀ x ∈ l.drop i, x.getLsbD j = false)) := by
  induction d with
  | zero =>
    intro k i p q hi hd hk hl
    obtain ⟨k, rfl⟩ : ∃ z, k = z + 1 := ⟨k - 1, by omega⟩
    refine ⟨p, q, ?_, fun j _ => ?_, fun j _ => ?_⟩
    · simp only [posternref14_Best.l0]
      rw [if_neg (by omega), c_not, c_not, c_and]
    · rw [List.drop_eq_nil_of_le (by omega)]; simp
    · rw [List.drop_eq_nil_of_le (by omega)]; simp
  | succ d ih =>
    intro k i p q hi hd hk hl
    obtain ⟨k, rfl⟩ : ∃ z, k = z + 1 := ⟨k - 1, by omega⟩
    obtain ⟨one, zero, e, h1, h2⟩ := ih k (i + 1) (p &&& l[i]'(by omega)) (q &&& ~~~(l[i]'(by omega))) (by omega) (by omega) (by omega) hl
    refine ⟨one, zero, ?_, fun j hj => ?_, fun j hj => ?_⟩
    · simp only [posternref14_Best.l0]
      rw [if_pos (by omega), if_pos (by omega), if_pos (by rw [ints_len]; omega), ints_rd l i (by omega), c_and, c_not, c_and, show wrap64 ((i : Int) + 1) = ((i + 1 : Nat) : Int) by unfold wrap64; omega, e]
    · rw [h1 j hj, show l.drop i = l[i]'(by omega) :: l.drop (i + 1) from List.drop_eq_getElem_cons (by omega), BitVec.getLsbD_and, Bool.and_eq_true, List.forall_mem_cons, and_assoc]
    · rw [h2 j hj, show l.drop i = l[i]'(by omega) :: l.drop (i + 1) from List.drop_eq_getElem_cons (by omega), BitVec.getLsbD_and, not_bit hj, Bool.and_eq_true, List.forall_mem_cons, and_assoc, Bool.not_eq_true']
theorem f_best (k : Nat) (hk : 2000 ≤ k) (l : List W) (hl : l.length ≤ 1024) (h0 : 0 < l.length) (rv rm : W) (t : Tidy rv rm) (hs : ∀ x ∈ l, Mem rv rm x)
    (hb : ∀ i, i < 64 → rm.getLsbD i = true → (∃ x ∈ l, x.getLsbD i = true) ∧ (∃ x ∈ l, x.getLsbD i = false)) : posternref14_Best.f k (ints l) = some ((rv.toNat : Int), (rm.toNat : Int)) := by
  unfold posternref14_Best.f
  obtain ⟨one, zero, e, h1, h2⟩ := best_l0 l l.length k 0 (BitVec.allOnes 64) (BitVec.allOnes 64) (by omega) (by omega) (by omega) hl
  rw [show ((BitVec.allOnes 64).toNat : Int) = 18446744073709551615 by decide +kernel] at e
  rw [ints_len, show (0 : Int) = ((0 : Nat) : Int) from rfl, e]
  rw [List.drop_zero] at h1 h2
  have x1 : ∃ x, x ∈ l := by cases l with
    | nil => simp at h0
    | cons x l => exact ⟨x, List.mem_cons_self ..⟩
  obtain ⟨y, hy⟩ := x1
  have o : one = rv := eq_of_bits fun i hi => by
    have h := h1 i hi
    rw [BitVec.getLsbD_allOnes] at h
    cases hm : rm.getLsbD i with
    | true =>
      rw [t i hm]
      obtain ⟨_, x, hx, hxf⟩ := hb i hi hm
      cases ho : one.getLsbD i with
      | false => rfl
      | true => have := (h.1 ho).2 x hx; rw [hxf] at this; cases this
    | false =>
      cases hv : rv.getLsbD i with
      | true => exact h.2 ⟨by simp [hi], fun x hx => by rw [hs x hx i hm, hv]⟩
      | false =>
        cases ho : one.getLsbD i with
        | false => rfl
        | true => have := (h.1 ho).2 y hy; rw [hs y hy i hm, hv] at this; cases this
  have z : ~~~one &&& ~~~zero = rm := eq_of_bits fun i hi => by
    have h := h2 i hi
    rw [BitVec.getLsbD_allOnes] at h
    rw [BitVec.getLsbD_and, not_bit hi, not_bit hi, o]
    cases hm : rm.getLsbD i with
    | true =>
      rw [t i hm]
      obtain ⟨⟨x, hx, hxf⟩, _⟩ := hb i hi hm
      cases ho : zero.getLsbD i with
      | false => rfl
      | true => have := (h.1 ho).2 x hx; rw [hxf] at this; cases this
    | false =>
      cases hv : rv.getLsbD i with
      | true => rfl
      | false =>
        have : zero.getLsbD i = true := h.2 ⟨by simp [hi], fun x hx => by rw [hs x hx i hm, hv]⟩
        rw [this]; rfl
  rw [o, ← o, z, o]

theorem f_has {v m x : W} (h : Mem v m x) : tnum_Has.f (v.toNat : Int) (m.toNat : Int) (x.toNat : Int) = some true := by
  simp only [tnum_Has.f, c_xor, c_andNot]
  have : (v ^^^ x) &&& ~~~m = 0#64 := eq_of_bits fun i hi => by
    rw [BitVec.getLsbD_and, BitVec.getLsbD_xor, not_bit hi, BitVec.getLsbD_zero]
    cases hm : m.getLsbD i with
    | true => simp
    | false => rw [h i hm]; simp
  rw [this]; rfl

/-- The law's last look. -/
theorem law_l0 (l : List W) (hl : l.length ≤ 1024) (h0 : 0 < l.length) (best : Bool) (rv rm : W) (t : Tidy rv rm) (hs : ∀ x ∈ l, Mem rv rm x)
    (hb : (best = true ∨ l.length ≤ 1) → ∀ i, i < 64 → rm.getLsbD i = true → (∃ x ∈ l, x.getLsbD i = true) ∧ (∃ x ∈ l, x.getLsbD i = false)) (d : Nat) : ∀ k i : Nat, i ≤ l.length → l.length - i = d → d + 2100 < k →
    posternlaw14_TnumBest.l0 k 0 (ints l) best (ints l) (l.length : Int) (i : Int) (rv.toNat : Int) (rm.toNat : Int) = some true := by
  induction d with
  | zero =>
    intro k i hi hd hk
    obtain ⟨k, rfl⟩ : ∃ z, k = z + 1 := ⟨k - 1, by omega⟩
    simp only [posternlaw14_TnumBest.l0]
    rw [if_neg (by omega)]
    simp only [if_true]
    cases best with
    | true =>
      simp only [if_true]
      rw [f_best k (by omega) l hl h0 rv rm t hs (hb (Or.inl rfl))]
      simp
    | false =>
      simp only [Bool.false_eq_true, if_false]
      by_cases h1 : ((ints l).length : Int) > 1
      · rw [if_pos h1]
      · rw [if_neg h1]
        rw [ints_len] at h1
        rw [f_best k (by omega) l hl h0 rv rm t hs (hb (Or.inr (by omega)))]
        simp
  | succ d ih =>
    intro k i hi hd hk
    obtain ⟨k, rfl⟩ : ∃ z, k = z + 1 := ⟨k - 1, by omega⟩
    simp only [posternlaw14_TnumBest.l0]
    rw [if_pos (by omega), if_pos (by omega), if_pos (by rw [ints_len]; omega), ints_rd l i (by omega), f_has (hs _ (List.getElem_mem _))]
    simp only [Option.bind_some, if_true]
    rw [show wrap64 ((i : Int) + 1) = ((i + 1 : Nat) : Int) by unfold wrap64; omega]
    exact ih k (i + 1) (by omega) (by omega) (by omega)

theorem has_two {l : List W} {x y : W} (hx : x ∈ l) (hy : y ∈ l) (h : x ≠ y) : 1 < l.length := by
  cases l with
  | nil => cases hx
  | cons a l =>
    cases l with
    | nil => simp at hx hy; exact absurd (hx.trans hy.symm) h
    | cons b l => simp
/-- A list of all members with one element alone: a constant. -/
theorem one_mem {v m : W} {l : List W} (hl : ∀ x, x ∈ l ↔ Mem v m x) (h : l.length ≤ 1) : m = 0#64 := by
  by_cases e : v = v ||| m
  · by_cases hz : m = 0#64
    · exact hz
    · exfalso
      -- a bit of the mask: set it and clear it
      have : ∃ i, i < 64 ∧ m.getLsbD i = true := by
        by_cases hh : ∃ i, i < 64 ∧ m.getLsbD i = true
        · exact hh
        · exact absurd (eq_of_bits fun i hi => by
            cases hm : m.getLsbD i with
            | false => rw [BitVec.getLsbD_zero]
            | true => exact absurd ⟨i, hi, hm⟩ hh) hz
      obtain ⟨i, hi, hm⟩ := this
      have h1 : Mem v m (v &&& ~~~m) := fun j hj => by
        rw [BitVec.getLsbD_and, BitVec.getLsbD_not, hj]
        by_cases h64 : j < 64
        · simp [h64]
        · rw [BitVec.getLsbD_of_ge v j (by omega)]; rfl
      have ne : v &&& ~~~m ≠ v ||| m := fun ee => by
        have := congrArg (fun z => BitVec.getLsbD z i) ee
        simp only [BitVec.getLsbD_and, BitVec.getLsbD_or, hm, not_bit hi] at this
        simp at this
      have := has_two ((hl _).2 h1) ((hl _).2 (mem_all v m)) ne
      omega
  · have := has_two ((hl _).2 (mem_self v m)) ((hl _).2 (mem_all v m)) e
    omega
theorem mem_pairs {a b : List W} {x0 : Int} {w : Bool} {z : W} : z ∈ (a.flatMap fun x => b.map (res x0 w x)) ↔ ∃ x y, x ∈ a ∧ y ∈ b ∧ res x0 w x y = z := by
  simp only [List.mem_flatMap, List.mem_map]
  constructor
  · rintro ⟨x, hx, y, hy, h⟩; exact ⟨x, y, hx, hy, h⟩
  · rintro ⟨x, y, hx, hy, h⟩; exact ⟨x, hx, y, hy, h⟩
theorem len_pairs (a b : List W) (x0 : Int) (w : Bool) : (a.flatMap fun x => b.map (res x0 w x)).length = a.length * b.length := by
  induction a with
  | nil => simp
  | cons x a ih => rw [List.flatMap_cons, List.length_append, ih, List.length_map, List.length_cons, Nat.add_mul, Nat.one_mul, Nat.add_comm]

/-- Behind the two lists. -/
theorem law_j0 (k : Nat) (hk : 9000 ≤ k) (x0 : Int) (w : Bool) (av am bv bm : W) (a b : List W) (ha : ∀ x, x ∈ a ↔ Mem av am x) (hb : ∀ x, x ∈ b ↔ Mem bv bm x) (hab : a.length * b.length ≤ 1024) :
    posternlaw14_TnumBest.j0 k x0 w (ints a) (ints b) false (av.toNat : Int) (am.toNat : Int) (bv.toNat : Int) (bm.toNat : Int) = some true := by
  obtain ⟨k, rfl⟩ : ∃ q, k = q + 3 := ⟨k - 3, by omega⟩
  have hs : posternlaw14_size.f w = some (if w then 64 else 32) := by cases w <;> rfl
  simp only [posternlaw14_TnumBest.j0, Bool.false_eq_true, if_false]
  by_cases hx : x0 ∈ ops
  · obtain ⟨rv, rm, e, t, _, _, hsnd⟩ := Do_sound (k + 2) (by omega) x0 hx w av am bv bm
    have hr := ref_res (k + 2) (by omega) x0 hx true 0#64 0#64
    rw [c_zero] at hr
    simp only [if_true] at hr
    have a1 : 0 < a.length := by
      have := (ha av).2 (mem_self _ _)
      cases a with
      | nil => cases this
      | cons x a => simp
    have b1 : 0 < b.length := by
      have := (hb bv).2 (mem_self _ _)
      cases b with
      | nil => cases this
      | cons x b => simp
    rw [e]
    simp only [Option.bind_some]
    rw [hr]
    simp only [Option.bind_some, if_true]
    rw [hs]
    simp only [Option.bind_some]
    rw [f_images (k + 2) (by omega) x0 hx w a b hab a1 b1]
    simp only [Option.bind_some]
    have hl : (a.flatMap fun x => b.map (res x0 w x)).length = a.length * b.length := len_pairs a b x0 w
    have hL0 : 0 < (a.flatMap fun x => b.map (res x0 w x)).length := by rw [hl]; exact Nat.mul_pos a1 b1
    have hS : ∀ z ∈ (a.flatMap fun x => b.map (res x0 w x)), Mem rv rm z := fun z hz => by
      obtain ⟨x, y, h1, h2, rfl⟩ := mem_pairs.1 hz
      exact hsnd x y ((ha x).1 h1) ((hb y).1 h2)
    have hB : Bst x0 am bm → ∀ i, i < 64 → rm.getLsbD i = true → (∃ z ∈ (a.flatMap fun x => b.map (res x0 w x)), z.getLsbD i = true) ∧ (∃ z ∈ (a.flatMap fun x => b.map (res x0 w x)), z.getLsbD i = false) := fun hB i hi hm => by
      obtain ⟨⟨x, y, h1, h2, h3⟩, ⟨x', y', h1', h2', h3'⟩⟩ := Do_best (k + 2) (by omega) x0 hx w av am bv bm rv rm hB e i hi hm
      exact ⟨⟨_, mem_pairs.2 ⟨x, y, (ha x).2 h1, (hb y).2 h2, rfl⟩, h3⟩, ⟨_, mem_pairs.2 ⟨x', y', (ha x').2 h1', (hb y').2 h2', rfl⟩, h3'⟩⟩
    have hone : (a.flatMap fun x => b.map (res x0 w x)).length ≤ 1 → Bst x0 am bm := fun h => by
      rw [hl] at h
      have la : a.length ≤ 1 := Nat.le_trans (Nat.le_mul_of_pos_right _ b1) h
      have lb : b.length ≤ 1 := Nat.le_trans (Nat.le_mul_of_pos_left _ a1) h
      exact Or.inr (Or.inr ⟨one_mem ha la, one_mem hb lb⟩)
    have fin : ∀ best : Bool, (best = true → Bst x0 am bm) → posternlaw14_TnumBest.j2 (k + 1) 0 (ints (a.flatMap fun x => b.map (res x0 w x))) best (rv.toNat : Int) (rm.toNat : Int) = some true := fun best hbest => by
      simp only [posternlaw14_TnumBest.j2]
      rw [ints_len]
      refine law_l0 _ (by rw [hl]; exact hab) hL0 best rv rm t hS (fun h => ?_) (a.flatMap fun x => b.map (res x0 w x)).length k 0 (by omega) (by omega) (by rw [hl]; omega)
      rcases h with h | h
      · exact hB (hbest h)
      · exact hB (hone h)
    have yes : x0 ∈ ([0, 16, 64, 80, 160, 128, 176] : List Int) → posternlaw14_TnumBest.j1 (k + 2) (ints b) 0 (ints (a.flatMap fun x => b.map (res x0 w x))) false x0 true (rv.toNat : Int) (rm.toNat : Int) = some true := fun h => by
      simp only [posternlaw14_TnumBest.j1, if_true]
      exact fin true (fun _ => Or.inl h)
    by_cases c0 : x0 = 0
    · subst c0; rw [if_pos rfl]; exact yes (by decide)
    rw [if_neg c0]
    by_cases c1 : x0 = 16
    · subst c1; rw [if_pos rfl]; exact yes (by decide)
    rw [if_neg c1]
    by_cases c2 : x0 = 64
    · subst c2; rw [if_pos rfl]; exact yes (by decide)
    rw [if_neg c2]
    by_cases c3 : x0 = 80
    · subst c3; rw [if_pos rfl]; exact yes (by decide)
    rw [if_neg c3]
    by_cases c4 : x0 = 160
    · subst c4; rw [if_pos rfl]; exact yes (by decide)
    rw [if_neg c4]
    by_cases c5 : x0 = 128
    · subst c5; rw [if_pos rfl]; exact yes (by decide)
    rw [if_neg c5]
    by_cases c6 : x0 = 176
    · subst c6; exact yes (by decide)
    rw [show (x0 == 176) = false from beq_eq_false_iff_ne.mpr c6]
    have bone : (((ints b).length : Int) == 1) = true → bm = 0#64 := fun h => by
      rw [ints_len] at h
      have : b.length = 1 := by have := beq_iff_eq.1 h; omega
      exact one_mem hb (by omega)
    simp only [posternlaw14_TnumBest.j1, Bool.false_eq_true, if_false]
    by_cases c7 : x0 = 96
    · subst c7; rw [if_pos rfl]; exact fin _ (fun h => Or.inr (Or.inl ⟨by decide, bone h⟩))
    rw [if_neg c7]
    by_cases c8 : x0 = 112
    · subst c8; rw [if_pos rfl]; exact fin _ (fun h => Or.inr (Or.inl ⟨by decide, bone h⟩))
    rw [if_neg c8]
    exact fin false (fun h => by cases h)
  · rw [Do_not (k + 2) x0 hx]
    simp only [Option.bind_some]
    rw [ref_not (k + 2) (by omega) x0 _ _ _ hx]
    simp
end TnumBestParts
open TnumBestParts

theorem first_mono (k : Nat) : posternlaw14_first.f (300 + k) = some true := by
  induction k with
  | zero => decide +kernel
  | succ k ih => exact posternlaw14_first.mono (300 + k) _ ih

theorem rounds (n : Nat) (hn : 9700 ≤ n) (a0 : Int) (w : Bool) (av am bv bm : W) : posternlaw14_TnumBest.f (300 + n) a0 (av.toNat : Int) (am.toNat : Int) (bv.toNat : Int) (bm.toNat : Int) w = some true := by
  have skip : ∀ (x y : List Int), posternlaw14_TnumBest.j0 (300 + n) a0 w x y true (av.toNat : Int) (am.toNat : Int) (bv.toNat : Int) (bm.toNat : Int) = some true := fun x y => by
    obtain ⟨k, hk⟩ : ∃ q, 300 + n = q + 1 := ⟨300 + n - 1, by omega⟩
    rw [hk]
    simp only [posternlaw14_TnumBest.j0, if_true]
  unfold posternlaw14_TnumBest.f
  rw [first_mono]
  simp only [Option.bind_some, if_true]
  rcases f_all (300 + n) (by omega) av am with ⟨a, ea, la, ha⟩ | ⟨a, ea⟩
  · rcases f_all (300 + n) (by omega) bv bm with ⟨b, eb, lb, hb⟩ | ⟨b, eb⟩
    · rw [ea, eb]
      simp only [Option.bind_some, if_true]
      cases hd : decide (wrap64 (((ints a).length : Int) * ((ints b).length : Int)) > 1024) with
      | true => exact skip _ _
      | false =>
        have hp : a.length * b.length ≤ 128 * 128 := Nat.mul_le_mul la lb
        rw [ints_len, ints_len, ← Int.natCast_mul, decide_eq_false_iff_not] at hd
        unfold wrap64 at hd
        exact law_j0 (300 + n) (by omega) a0 w av am bv bm a b ha hb (by omega)
    · rw [ea, eb]
      simp only [Option.bind_some, if_true, Bool.false_eq_true, if_false]
      exact skip _ _
  · rcases f_all (300 + n) (by omega) bv bm with ⟨b, eb, lb, hb⟩ | ⟨b, eb⟩
    · rw [ea, eb]
      simp only [Option.bind_some, Bool.false_eq_true, if_false]
      exact skip _ _
    · rw [ea, eb]
      simp only [Option.bind_some, Bool.false_eq_true, if_false]
      exact skip _ _

theorem TnumBest (a0 a1 a2 a3 a4 : Int) (w : Bool) (_ : (Lit.int .i64 a0).wf = true) (w1 : (Lit.int .u64 a1).wf = true) (w2 : (Lit.int .u64 a2).wf = true) (w3 : (Lit.int .u64 a3).wf = true) (w4 : (Lit.int .u64 a4).wf = true) :
    ∃ k, posternlaw14_TnumBest.f k a0 a1 a2 a3 a4 w = some true := by
  obtain ⟨av, rfl⟩ := bv_of w1
  obtain ⟨am, rfl⟩ := bv_of w2
  obtain ⟨bv, rfl⟩ := bv_of w3
  obtain ⟨bm, rfl⟩ := bv_of w4
  exact ⟨_, rounds 9700 (Nat.le_refl _) a0 w av am bv bm⟩
end Go.Proofs.Ytladlljnpmpdpaa.Pure
