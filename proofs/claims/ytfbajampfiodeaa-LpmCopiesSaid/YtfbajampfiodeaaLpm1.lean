/- Plain: keys of prefixes: how many bits count, the bits, the key cut, the way that its bits lead. Plain: of the keys held, the longest that begins a key: the document's search, and the search along the way of bits. -/
import Derived.Test.YtfbajampfiodeaaRxOps
namespace Go.Proofs.Ytfbajampfiodeaa.LpmB
open Go.Proofs.Ytfbajampfiodeaa.Rx Go.Proofs.Ytfbajampfiodeaa.RxOps
set_option linter.unusedVariables false
def Bs (l : List Int) : Prop := ∀ x ∈ l, 0 ≤ x ∧ x ≤ 255
theorem Bs.getD {l : List Int} (h : Bs l) (i : Nat) : 0 ≤ l.getD i 0 ∧ l.getD i 0 ≤ 255 := by
  rw [List.getD_eq_getElem?_getD]
  cases e : l[i]? with
  | none => simp
  | some x => exact h x (List.mem_of_getElem? e)
/-- How many bits count. -/
def nb (l : List Int) : Int := l.getD 0 0 + 256 * l.getD 1 0 + 65536 * l.getD 2 0 + 16777216 * l.getD 3 0
theorem nb_bounds {l : List Int} (h : Bs l) : 0 ≤ nb l ∧ nb l < 4294967296 := by
  have := h.getD 0; have := h.getD 1; have := h.getD 2; have := h.getD 3
  unfold nb; omega
/-- Bit m of a byte, from below. -/
def bitb (x : Int) (m : Nat) : Int := x / 2 ^ m % 2
theorem bitb_or (x : Int) (m : Nat) : bitb x m = 0 ∨ bitb x m = 1 := by unfold bitb; omega
theorem byte_sum (x : Int) (h0 : 0 ≤ x) (h1 : x ≤ 255) : x = ((((((bitb x 7 * 2 + bitb x 6) * 2 + bitb x 5) * 2 + bitb x 4) * 2 + bitb x 3) * 2 + bitb x 2) * 2 + bitb x 1) * 2 + bitb x 0 := by
  unfold bitb; omega
theorem byte_ext {x y : Int} (hx0 : 0 ≤ x) (hx1 : x ≤ 255) (hy0 : 0 ≤ y) (hy1 : y ≤ 255) (h : ∀ m, m < 8 → bitb x m = bitb y m) : x = y := by
  rw [byte_sum x hx0 hx1, byte_sum y hy0 hy1, h 0 (by omega), h 1 (by omega), h 2 (by omega), h 3 (by omega), h 4 (by omega), h 5 (by omega), h 6 (by omega), h 7 (by omega)]
/-- Bit i behind the number. -/
def bt (l : List Int) (i : Nat) : Int := bitb (l.getD (4 + i / 8) 0) (7 - i % 8)
theorem bt_or (l : List Int) (i : Nat) : bt l i = 0 ∨ bt l i = 1 := bitb_or _ _
def path (l : List Int) : List Int := (List.range (nb l).toNat).map (bt l)
theorem path_len (l : List Int) : (path l).length = (nb l).toNat := by simp [path]
theorem path_get {l : List Int} {i : Nat} (h : i < (nb l).toNat) : (path l)[i]? = some (bt l i) := by
  unfold path; rw [List.getElem?_map, List.getElem?_range h]; rfl
theorem path_take (l : List Int) (k : Nat) (h : k ≤ (nb l).toNat) : (path l).take k = (List.range k).map (bt l) := by
  unfold path
  rw [← List.map_take, List.take_range, Nat.min_eq_left h]
/-- Lists of bytes with the same bits are one. -/
theorem bits_ext {a b : List Int} (hl : a.length = b.length) (ha : Bs a) (hb : Bs b) (h4 : a.take 4 = b.take 4) (h : ∀ i, i < 8 * (a.length - 4) → bt a i = bt b i) : a = b := by
  refine List.ext_getElem? fun j => ?_
  by_cases hj : j < a.length
  · by_cases h3 : j < 4
    · have := congrArg (fun l : List Int => l[j]?) h4
      simpa [List.getElem?_take_of_lt h3] using this
    · have e : a.getD j 0 = b.getD j 0 := by
        refine byte_ext (ha.getD j).1 (ha.getD j).2 (hb.getD j).1 (hb.getD j).2 fun m hm => ?_
        have := h (8 * (j - 4) + (7 - m)) (by omega)
        unfold bt at this
        rw [show 4 + (8 * (j - 4) + (7 - m)) / 8 = j by omega, show 7 - (8 * (j - 4) + (7 - m)) % 8 = m by omega] at this
        exact this
      rw [List.getD_eq_getElem?_getD, List.getD_eq_getElem?_getD, List.getElem?_eq_getElem hj, List.getElem?_eq_getElem (by omega)] at e
      rw [List.getElem?_eq_getElem hj, List.getElem?_eq_getElem (by omega)]
      exact congrArg some e
  · rw [List.getElem?_eq_none (by omega), List.getElem?_eq_none (by omega)]
/-- Bit i, where it counts. -/
def mk (l : List Int) (i : Nat) : Int := if (i : Int) < nb l then bt l i else 0
theorem mk_or (l : List Int) (i : Nat) : mk l i = 0 ∨ mk l i = 1 := by
  unfold mk; split
  · exact bt_or l i
  · exact .inl rfl
/-- The first k bits of byte j of the key cut. -/
def acc (l : List Int) (j : Nat) : Nat → Int
  | 0 => 0
  | k + 1 => acc l j k * 2 + mk l (8 * j + k)
def cut (l : List Int) : List Int := l.take 4 ++ (List.range (l.length - 4)).map fun j => acc l j 8
theorem acc_bounds (l : List Int) (j : Nat) : 0 ≤ acc l j 8 ∧ acc l j 8 ≤ 255 := by
  have h0 := mk_or l (8 * j + 0); have h1 := mk_or l (8 * j + 1); have h2 := mk_or l (8 * j + 2); have h3 := mk_or l (8 * j + 3)
  have h4 := mk_or l (8 * j + 4); have h5 := mk_or l (8 * j + 5); have h6 := mk_or l (8 * j + 6); have h7 := mk_or l (8 * j + 7)
  simp only [acc]
  omega
theorem acc_small (l : List Int) (j : Nat) : ∀ k, k ≤ 8 → 0 ≤ acc l j k ∧ acc l j k < 2 ^ k
  | 0, _ => by simp [acc]
  | k + 1, hk => by
    have := acc_small l j k (by omega)
    have := mk_or l (8 * j + k)
    simp only [acc]
    rw [Int.pow_succ]
    omega
theorem mk_le (l : List Int) (i : Nat) : 0 ≤ mk l i ∧ mk l i ≤ 1 := by rcases mk_or l i with h | h <;> rw [h] <;> decide
theorem acc_bit (l : List Int) (j m : Nat) (hm : m < 8) : bitb (acc l j 8) m = mk l (8 * j + (7 - m)) := by
  have h0 := mk_le l (8 * j + 0); have h1 := mk_le l (8 * j + 1); have h2 := mk_le l (8 * j + 2); have h3 := mk_le l (8 * j + 3)
  have h4 := mk_le l (8 * j + 4); have h5 := mk_le l (8 * j + 5); have h6 := mk_le l (8 * j + 6); have h7 := mk_le l (8 * j + 7)
  simp only [acc]
  unfold bitb
  rcases (show m = 0 ∨ m = 1 ∨ m = 2 ∨ m = 3 ∨ m = 4 ∨ m = 5 ∨ m = 6 ∨ m = 7 by omega) with rfl | rfl | rfl | rfl | rfl | rfl | rfl | rfl <;> simp only [Nat.reduceSub, Int.reducePow] <;>
    (generalize mk l (8 * j + 0) = b0 at *; generalize mk l (8 * j + 1) = b1 at *; generalize mk l (8 * j + 2) = b2 at *; generalize mk l (8 * j + 3) = b3 at *
     generalize mk l (8 * j + 4) = b4 at *; generalize mk l (8 * j + 5) = b5 at *; generalize mk l (8 * j + 6) = b6 at *; generalize mk l (8 * j + 7) = b7 at *
     omega)
section
variable {l : List Int}
theorem cut_len (h : 4 ≤ l.length) : (cut l).length = l.length := by unfold cut; simp; omega
theorem cut_take (h : 4 ≤ l.length) : (cut l).take 4 = l.take 4 := by
  unfold cut
  rw [List.take_append_of_le_length (by simp; omega), List.take_take, Nat.min_self]
theorem getD_take {l l' : List Int} (h : l.take 4 = l'.take 4) (i : Nat) (hi : i < 4) : l.getD i 0 = l'.getD i 0 := by
  have := congrArg (fun l : List Int => l[i]?) h
  simp only [List.getElem?_take_of_lt hi] at this
  rw [List.getD_eq_getElem?_getD, List.getD_eq_getElem?_getD, this]
theorem nb_take {l l' : List Int} (h : l.take 4 = l'.take 4) : nb l = nb l' := by
  unfold nb
  rw [getD_take h 0 (by omega), getD_take h 1 (by omega), getD_take h 2 (by omega), getD_take h 3 (by omega)]
theorem take_nb {l l' : List Int} (hl : 4 ≤ l.length) (hl' : 4 ≤ l'.length) (hb : Bs l) (hb' : Bs l') (h : nb l = nb l') : l.take 4 = l'.take 4 := by
  have e : ∀ i, i < 4 → l.getD i 0 = l'.getD i 0 := by
    have := hb.getD 0; have := hb.getD 1; have := hb.getD 2; have := hb.getD 3
    have := hb'.getD 0; have := hb'.getD 1; have := hb'.getD 2; have := hb'.getD 3
    unfold nb at h
    intro i hi
    rcases (show i = 0 ∨ i = 1 ∨ i = 2 ∨ i = 3 by omega) with rfl | rfl | rfl | rfl <;> omega
  refine List.ext_getElem? fun i => ?_
  by_cases hi : i < 4
  · have := e i hi
    rw [List.getD_eq_getElem?_getD, List.getD_eq_getElem?_getD, List.getElem?_eq_getElem (by omega), List.getElem?_eq_getElem (by omega)] at this
    rw [List.getElem?_take_of_lt hi, List.getElem?_take_of_lt hi, List.getElem?_eq_getElem (by omega), List.getElem?_eq_getElem (by omega)]
    exact congrArg some this
  · rw [List.getElem?_eq_none (by simp; omega), List.getElem?_eq_none (by simp; omega)]
theorem nb_cut (h : 4 ≤ l.length) : nb (cut l) = nb l := nb_take (cut_take h)
theorem Bs.cut (hb : Bs l) : Bs (cut l) := by
  intro x hx
  unfold LpmB.cut at hx
  rcases List.mem_append.1 hx with hx | hx
  · exact hb x (List.mem_of_mem_take hx)
  · obtain ⟨j, _, rfl⟩ := List.mem_map.1 hx
    exact acc_bounds l j
theorem cut_getD (h : 4 ≤ l.length) (j : Nat) (hj : j < l.length - 4) : (cut l).getD (4 + j) 0 = acc l j 8 := by
  unfold cut
  rw [List.getD_eq_getElem?_getD, List.getElem?_append_right (by simp; omega), List.getElem?_map]
  rw [show 4 + j - (l.take 4).length = j by simp; omega, List.getElem?_range hj]
  rfl
theorem bt_cut (h : 4 ≤ l.length) (i : Nat) (hi : i < 8 * (l.length - 4)) : bt (cut l) i = mk l i := by
  unfold bt
  rw [cut_getD h (i / 8) (by omega), acc_bit l (i / 8) (7 - i % 8) (by omega), show 8 * (i / 8) + (7 - (7 - i % 8)) = i by omega]
theorem path_cut (h : 4 ≤ l.length) (hn : nb l ≤ 8 * ((l.length : Int) - 4)) : path (cut l) = path l := by
  unfold path
  rw [nb_cut h]
  refine List.map_congr_left fun i hi => ?_
  have hi := List.mem_range.1 hi
  rw [bt_cut h i (by omega)]
  unfold mk
  rw [if_pos (by omega)]
/-- What has all bits of l that count, and zeros behind them, is l cut. -/
theorem cut_of (h : 4 ≤ l.length) (hb : Bs l) {o : List Int} (hol : o.length = l.length) (hob : Bs o) (h4 : o.take 4 = l.take 4) (ho : ∀ i, i < 8 * (l.length - 4) → bt o i = mk l i) : o = cut l := by
  refine bits_ext (by rw [cut_len h, hol]) hob hb.cut (by rw [h4, cut_take h]) fun i hi => ?_
  rw [hol] at hi
  rw [ho i hi, bt_cut h i hi]
theorem cut_cut (h : 4 ≤ l.length) (hb : Bs l) : cut (cut l) = cut l := by
  refine (cut_of (l := cut l) (by rw [cut_len h]; exact h) hb.cut rfl hb.cut rfl fun i hi => ?_).symm
  rw [cut_len h] at hi
  unfold mk
  rw [nb_cut h]
  split
  · rfl
  · rw [bt_cut h i hi]; unfold mk; rw [if_neg (by assumption)]
end
/-- Keys of one length lead one way just if, cut, they are one. -/
theorem cut_path {l l' : List Int} (h : 4 ≤ l.length) (hl : l.length = l'.length) (hb : Bs l) (hb' : Bs l') (hn : nb l ≤ 8 * ((l.length : Int) - 4)) (hn' : nb l' ≤ 8 * ((l'.length : Int) - 4)) : cut l = cut l' ↔ path l = path l' := by
  constructor
  · intro e
    rw [← path_cut h hn, e, path_cut (by omega) hn']
  · intro e
    have hp := congrArg List.length e
    rw [path_len, path_len] at hp
    have b1 := nb_bounds hb; have b2 := nb_bounds hb'
    have en : nb l = nb l' := by omega
    have e4 := take_nb h (by omega) hb hb' en
    refine cut_of (by omega) hb' (by rw [cut_len h, hl]) hb.cut (by rw [cut_take h, e4]) fun i hi => ?_
    rw [bt_cut h i (by omega)]
    unfold mk
    rw [en]
    split
    · have := congrArg (fun l : List Int => l[i]?) e
      simp only [path_get (show i < (nb l).toNat by omega), path_get (show i < (nb l').toNat by omega)] at this
      exact Option.some.inj this
    · rfl
/-- The key's bits under the number of another. -/
theorem cut_mix {k l : List Int} (h : 4 ≤ k.length) (hl : k.length = l.length) (hb : Bs k) (hb' : Bs l) (hn : nb k ≤ 8 * ((k.length : Int) - 4)) (hc : cut k = k) (hle : nb k ≤ nb l) : cut (k.take 4 ++ l.drop 4) = k ↔ (path l).take (path k).length = path k := by
  have hxl : (k.take 4 ++ l.drop 4).length = k.length := by simp; omega
  have hxb : Bs (k.take 4 ++ l.drop 4) := fun x hx => (List.mem_append.1 hx).elim (fun h => hb x (List.mem_of_mem_take h)) (fun h => hb' x (List.mem_of_mem_drop h))
  have hx4 : (k.take 4 ++ l.drop 4).take 4 = k.take 4 := by rw [List.take_append_of_le_length (by simp; omega), List.take_take, Nat.min_self]
  have hnb : nb (k.take 4 ++ l.drop 4) = nb k := nb_take hx4
  have hbt : ∀ i, bt (k.take 4 ++ l.drop 4) i = bt l i := fun i => by
    unfold bt
    rw [List.getD_eq_getElem?_getD, List.getElem?_append_right (by simp; omega), List.getElem?_drop, ← List.getD_eq_getElem?_getD]
    rw [show 4 + (4 + i / 8 - (k.take 4).length) = 4 + i / 8 by simp; omega]
  have hp : path (k.take 4 ++ l.drop 4) = (path l).take (path k).length := by
    have b1 := nb_bounds hb
    rw [path_len, path_take l _ (by omega)]
    unfold path
    rw [hnb]
    exact List.map_congr_left fun i _ => hbt i
  have := cut_path (l := k.take 4 ++ l.drop 4) (l' := k) (by omega) hxl hxb hb (by omega) hn
  rw [hc, hp] at this
  exact this
end Go.Proofs.Ytfbajampfiodeaa.LpmB
namespace Go.Proofs.Ytfbajampfiodeaa.LpmF
open Go.Proofs.Ytfbajampfiodeaa.Rx Go.Proofs.Ytfbajampfiodeaa.RxOps Go.Proofs.Ytfbajampfiodeaa.LpmB
set_option linter.unusedVariables false
/-- A key as it is held. -/
def KeyOk (sz : Int) (k : List Int) : Prop := (k.length : Int) = sz ∧ Bs k ∧ nb k ≤ 8 * (sz - 4) ∧ cut k = k
def KsOk (sz : Int) (ks : List (Option (List Int))) : Prop := 5 ≤ sz ∧ ∀ k, some k ∈ ks → KeyOk sz k
/-- A key as it may come in. -/
def InOk (sz : Int) (l : List Int) : Prop := (l.length : Int) = sz ∧ Bs l ∧ nb l ≤ 8 * (sz - 4)
/-- A round of the document's search. -/
def fstep (ks : List (Option (List Int))) (l : List Int) (at_ : Int) (i : Nat) : Int :=
  match ks[i]? with
  | some (some k) => if nb k > nb l ∨ (0 ≤ at_ ∧ nb ((ks.getD at_.toNat none).getD []) ≥ nb k) then at_ else if cut (k.take 4 ++ l.drop 4) = k then (i : Int) else at_
  | _ => at_
def fndTo (ks : List (Option (List Int))) (l : List Int) : Nat → Int
  | 0 => -1
  | i + 1 => fstep ks l (fndTo ks l i) i
def find3 (ks : List (Option (List Int))) (l : List Int) : Int := fndTo ks l ks.length
/-- It begins the key. -/
def Pre (k l : List Int) : Prop := (path l).take (path k).length = path k
def FindIs (ks : List (Option (List Int))) (l : List Int) (m : Nat) (r : Int) : Prop :=
  (r = -1 ∧ ∀ i, i < m → ∀ k, ks[i]? = some (some k) → ¬ Pre k l) ∨
  ∃ (j : Nat) (k : List Int), r = (j : Int) ∧ j < m ∧ ks[j]? = some (some k) ∧ Pre k l ∧ ∀ i, i < m → ∀ k', ks[i]? = some (some k') → Pre k' l → nb k' ≤ nb k
theorem Pre.nb {k l : List Int} (hk : Bs k) (hl : Bs l) (h : Pre k l) : nb k ≤ nb l := by
  have := congrArg List.length h
  rw [List.length_take, path_len, path_len] at this
  have := nb_bounds hk; have := nb_bounds hl
  omega
theorem fndTo_is {sz : Int} {ks : List (Option (List Int))} {l : List Int} (hks : KsOk sz ks) (hl : InOk sz l) : ∀ m, m ≤ ks.length → FindIs ks l m (fndTo ks l m)
  | 0, _ => .inl ⟨rfl, fun i h => absurd h (Nat.not_lt_zero _)⟩
  | m + 1, hm => by
    have ih := fndTo_is hks hl m (by omega)
    have h5 := hks.1
    show FindIs ks l (m + 1) (fstep ks l (fndTo ks l m) m)
    generalize fndTo ks l m = a at ih
    have same : (∀ k, ks[m]? = some (some k) → Pre k l → ∃ (j : Nat) (k' : List Int), a = (j : Int) ∧ ks[j]? = some (some k') ∧ nb k ≤ nb k') → FindIs ks l (m + 1) a := by
      intro h
      rcases ih with ⟨e, h1⟩ | ⟨j, k0, e, h1, h2, h3, h4⟩
      · refine .inl ⟨e, fun i hi k hk hp => ?_⟩
        by_cases him : i = m
        · subst him
          obtain ⟨j, _, e2, _⟩ := h k hk hp
          omega
        · exact h1 i (by omega) k hk hp
      · refine .inr ⟨j, k0, e, by omega, h2, h3, fun i hi k hk hp => ?_⟩
        by_cases him : i = m
        · subst him
          obtain ⟨j', k', e2, h5, h6⟩ := h k hk hp
          obtain rfl : j = j' := by omega
          rw [h2] at h5
          cases h5
          exact h6
        · exact h4 i (by omega) k hk hp
    unfold fstep
    split
    · rename_i k hk
      obtain ⟨k1, k2, k3, k4⟩ := hks.2 k (List.mem_of_getElem? hk)
      have hmix : nb k ≤ nb l → (cut (k.take 4 ++ l.drop 4) = k ↔ Pre k l) := fun hle => cut_mix (by omega) (by have := hl.1; omega) k2 hl.2.1 (by rw [k1]; exact k3) k4 hle
      by_cases h1 : nb k > nb l
      · rw [if_pos (.inl h1)]
        refine same fun k' hk' hp => ?_
        rw [hk] at hk'; cases hk'
        have := Pre.nb k2 hl.2.1 hp
        omega
      · by_cases h2 : 0 ≤ a ∧ nb ((ks.getD a.toNat none).getD []) ≥ nb k
        · rw [if_pos (.inr h2)]
          refine same fun k' hk' hp => ?_
          rw [hk] at hk'; cases hk'
          rcases ih with ⟨e, _⟩ | ⟨j, k0, e, _, h3, _⟩
          · omega
          · refine ⟨j, k0, e, h3, ?_⟩
            have := h2.2
            rw [e, Int.toNat_natCast, List.getD_eq_getElem?_getD, h3] at this
            exact this
        · rw [if_neg (by rintro (h | h); exact h1 h; exact h2 h)]
          by_cases h3 : cut (k.take 4 ++ l.drop 4) = k
          · rw [if_pos h3]
            have hp := (hmix (by omega)).1 h3
            refine .inr ⟨m, k, rfl, by omega, hk, hp, fun i hi k' hk' hp' => ?_⟩
            by_cases him : i = m
            · subst him; rw [hk] at hk'; cases hk'; omega
            · rcases ih with ⟨_, h4⟩ | ⟨j, k0, e, _, h4, _, h5⟩
              · exact absurd hp' (h4 i (by omega) k' hk')
              · have h6 := h5 i (by omega) k' hk' hp'
                have h7 : ¬ nb k0 ≥ nb k := fun h => h2 ⟨by omega, by rw [e, Int.toNat_natCast, List.getD_eq_getElem?_getD, h4]; exact h⟩
                omega
          · rw [if_neg h3]
            exact same fun k' hk' hp => by rw [hk] at hk'; cases hk'; exact absurd ((hmix (by omega)).2 hp) h3
    · rename_i hno
      exact same fun k' hk' _ => absurd hk' (hno k')
theorem find3_is {sz : Int} {ks : List (Option (List Int))} {l : List Int} (hks : KsOk sz ks) (hl : InOk sz l) : FindIs ks l ks.length (find3 ks l) := fndTo_is hks hl _ (Nat.le_refl _)
theorem find3_bound {sz : Int} {ks : List (Option (List Int))} {l : List Int} (hks : KsOk sz ks) (hl : InOk sz l) : find3 ks l = -1 ∨ ∃ i : Nat, find3 ks l = (i : Int) ∧ i < ks.length := by
  rcases find3_is hks hl with h | ⟨j, k, e, h, _⟩
  · exact .inl h.1
  · exact .inr ⟨j, e, h⟩
/-- The slots by the ways of bits. -/
structure SlotsIs (S : List Int → Int) (ks : List (Option (List Int))) : Prop where
  held : ∀ (i : Nat) (k : List Int), ks[i]? = some (some k) → S (path k) = (i : Int)
  of : ∀ q, S q = -1 ∨ ∃ (i : Nat) (k : List Int), S q = (i : Int) ∧ ks[i]? = some (some k) ∧ path k = q
def bestTo (S : List Int → Int) (p : List Int) : Nat → Int
  | 0 => -1
  | i + 1 => if 0 ≤ S (p.take i) then S (p.take i) else bestTo S p i
theorem bestTo_is (S : List Int → Int) (p : List Int) : ∀ m, (bestTo S p m = -1 ∧ ∀ j, j < m → S (p.take j) < 0) ∨ ∃ j, j < m ∧ bestTo S p m = S (p.take j) ∧ 0 ≤ S (p.take j) ∧ ∀ j', j < j' → j' < m → S (p.take j') < 0
  | 0 => .inl ⟨rfl, fun j h => absurd h (Nat.not_lt_zero _)⟩
  | m + 1 => by
    unfold bestTo
    by_cases h : 0 ≤ S (p.take m)
    · rw [if_pos h]; exact .inr ⟨m, by omega, rfl, h, fun j' h1 h2 => by omega⟩
    · rw [if_neg h]
      rcases bestTo_is S p m with ⟨h1, h2⟩ | ⟨j, h1, h2, h3, h4⟩
      · refine .inl ⟨h1, fun j hj => ?_⟩
        by_cases e : j = m
        · subst e; omega
        · exact h2 j (by omega)
      · refine .inr ⟨j, by omega, h2, h3, fun j' h5 h6 => ?_⟩
        by_cases e : j' = m
        · subst e; omega
        · exact h4 j' h5 (by omega)
theorem best_find {sz : Int} {S : List Int → Int} {ks : List (Option (List Int))} {l : List Int} (hks : KsOk sz ks) (hl : InOk sz l) (hS : SlotsIs S ks) : bestTo S (path l) ((nb l).toNat + 1) = find3 ks l := by
  have hpl := path_len l
  rcases find3_is hks hl with ⟨e, h⟩ | ⟨i, k, e, h1, h2, h3, h4⟩
  · rw [e]
    rcases bestTo_is S (path l) ((nb l).toNat + 1) with ⟨h1, _⟩ | ⟨j, h1, h2, h3, _⟩
    · exact h1
    · rcases hS.of ((path l).take j) with h4 | ⟨i, k, _, h5, h6⟩
      · omega
      · exact absurd (by unfold Pre; rw [h6, List.length_take, hpl, Nat.min_eq_left (by omega)]) (h i (List.getElem?_eq_some_iff.1 h5).1 k h5)
  · have hi := hS.held i k h2
    have hk := hks.2 k (List.mem_of_getElem? h2)
    have hle := Pre.nb hk.2.1 hl.2.1 h3
    have hpk := path_len k
    have b1 := nb_bounds hk.2.1
    have b2 := nb_bounds hl.2.1
    have hi2 : S ((path l).take (nb k).toNat) = (i : Int) := by rw [← hpk, show (path l).take (path k).length = path k from h3]; exact hi
    rw [e]
    rcases bestTo_is S (path l) ((nb l).toNat + 1) with ⟨_, h5⟩ | ⟨j, h5, h6, h7, h8⟩
    · have := h5 (nb k).toNat (by omega); omega
    · rw [h6]
      by_cases hj : j = (nb k).toNat
      · rw [hj]; exact hi2
      · by_cases hlt : j < (nb k).toNat
        · have := h8 _ hlt (by omega); omega
        · rcases hS.of ((path l).take j) with h9 | ⟨i', k', _, h10, h11⟩
          · omega
          · have hp' : Pre k' l := by unfold Pre; rw [h11, List.length_take, hpl, Nat.min_eq_left (by omega)]
            have h12 := h4 i' (List.getElem?_eq_some_iff.1 h10).1 k' h10 hp'
            have h13 := congrArg List.length h11
            rw [path_len, List.length_take, hpl, Nat.min_eq_left (by omega)] at h13
            omega
/-- The slot of just that key. -/
theorem slot_same {sz : Int} {S : List Int → Int} {ks : List (Option (List Int))} {l : List Int} (hks : KsOk sz ks) (hl : InOk sz l) (hS : SlotsIs S ks) : S (path l) = sameAt (cut l) ks 0 := by
  have h5 := hks.1
  have h1 := hl.1
  have hsame : ∀ (ks : List (Option (List Int))) (j : Nat), (∀ r : Nat, sameAt (cut l) ks j = (r : Int) → j ≤ r ∧ ks[r - j]? = some (some (cut l))) ∧ (sameAt (cut l) ks j = -1 → some (cut l) ∉ ks) := by
    intro ks
    induction ks with
    | nil => intro j; exact ⟨fun r h => by simp [sameAt] at h, fun _ => by simp⟩
    | cons k t ih =>
      intro j
      unfold sameAt
      by_cases hk : k = some (cut l)
      · rw [if_pos hk]
        exact ⟨fun r h => ⟨by omega, by rw [show r - j = 0 by omega, hk]; rfl⟩, fun h => by omega⟩
      · rw [if_neg hk]
        refine ⟨fun r h => ?_, fun h => ?_⟩
        · obtain ⟨q1, q2⟩ := (ih (j + 1)).1 r h
          refine ⟨by omega, ?_⟩
          rw [show r - j = (r - (j + 1)) + 1 by omega, List.getElem?_cons_succ]
          exact q2
        · intro hm
          rcases List.mem_cons.1 hm with e | e
          · exact hk e.symm
          · exact (ih (j + 1)).2 h e
  have hpc := path_cut (l := l) (by omega) (by rw [h1]; exact hl.2.2)
  rcases same_slot (cut l) ks with e | ⟨r, e, _⟩
  · rcases hS.of (path l) with h | ⟨i, k, _, h2, h3⟩
    · rw [h, e]
    · refine absurd ?_ ((hsame ks 0).2 e)
      obtain ⟨k1, k2, k3, k4⟩ := hks.2 k (List.mem_of_getElem? h2)
      have := (cut_path (by omega) (by omega) k2 hl.2.1 (by rw [k1]; exact k3) (by rw [h1]; exact hl.2.2)).2 h3
      rw [k4] at this
      rw [← this]
      exact List.mem_of_getElem? h2
  · have := ((hsame ks 0).1 r e).2
    have := hS.held r _ (by simpa using this)
    rw [hpc] at this
    rw [this, e]
theorem cutOk {sz : Int} {l : List Int} (hl : InOk sz l) (h5 : 5 ≤ sz) : KeyOk sz (cut l) := by
  have h1 := hl.1
  exact ⟨by rw [cut_len (by omega)]; exact h1, hl.2.1.cut, by rw [nb_cut (by omega)]; exact hl.2.2, cut_cut (by omega) hl.2.1⟩
theorem KsOk.set_ {sz : Int} {ks : List (Option (List Int))} (h : KsOk sz ks) (i : Nat) (k : Option (List Int)) (hk : ∀ l, k = some l → KeyOk sz l) : KsOk sz (ks.set i k) :=
  ⟨h.1, fun l hl => (List.mem_or_eq_of_mem_set hl).elim (h.2 l) (fun e => hk l e.symm)⟩
/-- A new key at a free slot. -/
theorem SlotsIs.put {S S' : List Int → Int} {ks : List (Option (List Int))} (h : SlotsIs S ks) {i : Nat} {k : List Int} (hi : ks[i]? = some none) (hk : S (path k) = -1) (h1 : S' (path k) = (i : Int)) (h2 : ∀ q, q ≠ path k → S' q = S q) : SlotsIs S' (ks.set i (some k)) := by
  have hil := (List.getElem?_eq_some_iff.1 hi).1
  refine ⟨fun j k' hj => ?_, fun q => ?_⟩
  · by_cases e : i = j
    · subst e; rw [List.getElem?_set_self hil] at hj; cases hj; exact h1
    · rw [List.getElem?_set_ne e] at hj
      have := h.held j k' hj
      rw [h2 _ (fun e2 => by rw [e2, hk] at this; omega)]
      exact this
  · by_cases e : q = path k
    · subst e; exact .inr ⟨i, k, h1, List.getElem?_set_self hil, rfl⟩
    · rw [h2 q e]
      rcases h.of q with h3 | ⟨j, k', h3, h4, h5⟩
      · exact .inl h3
      · exact .inr ⟨j, k', h3, by rw [List.getElem?_set_ne (by rintro rfl; rw [hi] at h4; cases h4)]; exact h4, h5⟩
/-- A key is taken out. -/
theorem SlotsIs.del {S S' : List Int → Int} {ks : List (Option (List Int))} (h : SlotsIs S ks) {i : Nat} {k : List Int} (hi : ks[i]? = some (some k)) (h1 : S' (path k) = -1) (h2 : ∀ q, q ≠ path k → S' q = S q) : SlotsIs S' (ks.set i none) := by
  have hil := (List.getElem?_eq_some_iff.1 hi).1
  refine ⟨fun j k' hj => ?_, fun q => ?_⟩
  · by_cases e : i = j
    · subst e; rw [List.getElem?_set_self hil] at hj; cases hj
    · rw [List.getElem?_set_ne e] at hj
      have h3 := h.held j k' hj
      have h4 := h.held i k hi
      rw [h2 _ (fun e2 => by rw [e2, h4] at h3; omega)]
      exact h3
  · by_cases e : q = path k
    · subst e; exact .inl h1
    · rw [h2 q e]
      rcases h.of q with h3 | ⟨j, k', h3, h4, h5⟩
      · exact .inl h3
      · exact .inr ⟨j, k', h3, by rw [List.getElem?_set_ne (by rintro rfl; rw [hi] at h4; cases h4; exact e h5.symm)]; exact h4, h5⟩
end Go.Proofs.Ytfbajampfiodeaa.LpmF
