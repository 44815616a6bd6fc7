/- The document's memory: Load, Store, walked by hand; the memory by its regions' values alone. Plain: the program's memory and the document's answer alike. -/
import Derived.Test.YtpjgaacdohiomaaMemR2
import Derived.Test.YtpjgaacdohiomaaMemK
namespace Go.Proofs.Ytpjgaacdohiomaa.MemRG
open Go.RowKit Go.Proofs.Ytpjgaacdohiomaa.PMemCopies Go.Proofs.YtpjgaacdohiomaaW.PrintWords Go.Proofs.YtpjgaacdohiomaaW.PrintLast Go.Proofs.YtpjgaacdohiomaaW.PrintMore Go.Proofs.Ytpjgaacdohiomaa.Mw Go.Proofs.Ytpjgaacdohiomaa.Mem1 Go.Proofs.Ytpjgaacdohiomaa.MemB Go.Proofs.Ytpjgaacdohiomaa.MemN Go.Proofs.Ytpjgaacdohiomaa.MemC Go.Proofs.Ytpjgaacdohiomaa.MemQ Go.Proofs.Ytpjgaacdohiomaa.MemRA Go.Proofs.Ytpjgaacdohiomaa.MemRB Go.Proofs.Ytpjgaacdohiomaa.MemRC Go.Proofs.Ytpjgaacdohiomaa.MemRD Go.Proofs.Ytpjgaacdohiomaa.MemRE Go.Proofs.Ytpjgaacdohiomaa.MemRN Go.Proofs.Ytpjgaacdohiomaa.MemRF
set_option linter.unusedVariables false
set_option linter.unusedSimpArgs false
theorem rnum_go (l : List Int) (h : ∀ x ∈ l, Byte x) (h8 : l.length ≤ 8) (i : Nat) : ∀ k, i ≤ l.length → posternref01_Number.l0 (i + k + 1) l (num (l.drop i)) ((i : Int) - 1) = some (num l) := by
  induction i with
  | zero =>
    intro k _
    simp only [posternref01_Number.l0]
    rw [if_neg (by omega), List.drop_zero]
  | succ i ih =>
    intro k hi
    have hil : i < l.length := by omega
    have hb : Byte (l[i]) := h _ (List.getElem_mem hil)
    have hd : l.drop i = l[i] :: l.drop (i + 1) := List.drop_eq_getElem_cons hil
    have hbo := num_bounds (l.drop (i + 1)) (fun x hx => h x (List.mem_of_mem_drop hx))
    rw [List.length_drop] at hbo
    have hp : (256 : Int) ^ (l.length - (i + 1)) ≤ 256 ^ 7 := (by decide +kernel : ∀ i : Fin 8, (256 : Int) ^ i.val ≤ 256 ^ 7) ⟨l.length - (i + 1), by omega⟩
    have hp7 : (256 : Int) ^ 7 = 72057594037927936 := by decide
    obtain ⟨b1, b2⟩ := hb
    rw [show i + 1 + k + 1 = i + k + 1 + 1 by omega]
    simp only [posternref01_Number.l0]
    rw [if_pos (by omega), if_pos (by omega), if_pos (by omega), show (((i + 1 : Nat) : Int) - 1) = (i : Int) by omega, rd_at hil, show wrap64 ((i : Int) - 1) = (i : Int) - 1 by unfold wrap64; omega]
    rw [show IntKind.u64.wrap (num (l.drop (i + 1)) * 256) = num (l.drop (i + 1)) * 256 by rw [IntKind.wrap_u64]; omega, show IntKind.u64.wrap (l[i]) = l[i] by rw [IntKind.wrap_u64]; omega, show IntKind.u64.wrap (num (l.drop (i + 1)) * 256 + l[i]) = num (l.drop (i + 1)) * 256 + l[i] by rw [IntKind.wrap_u64]; omega]
    have he : num (l.drop i) = num (l.drop (i + 1)) * 256 + l[i] := by rw [hd]; simp only [num]; omega
    rw [← ih k (by omega), he]
    rfl
theorem RNum_ (l : List Int) (h : ∀ x ∈ l, Byte x) (h8 : l.length ≤ 8) : posternref01_Number.f 9 l = some (num l) := by
  have := rnum_go l h h8 l.length (8 - l.length) (Nat.le_refl _)
  rw [show l.length + (8 - l.length) + 1 = 9 by omega, List.drop_length] at this
  unfold posternref01_Number.f
  rw [show wrap64 ((l.length : Int) - 1) = (l.length : Int) - 1 by unfold wrap64; omega]
  exact this
theorem rput_go (v : Int) (hv : 0 ≤ v ∧ v < 18446744073709551616) (n : Nat) (h8 : n ≤ 8) (j : Nat) : ∀ (i k : Nat), i + j = n → posternref01_Bytes.l0 (j + k + 1) (v / 256 ^ i) (n : Int) (putB v i) (i : Int) = some (putB v n) := by
  induction j with
  | zero =>
    intro i k hi
    obtain rfl : i = n := by omega
    simp only [posternref01_Bytes.l0]
    rw [if_neg (by omega)]
  | succ j ih =>
    intro i k hi
    rw [show j + 1 + k + 1 = j + k + 1 + 1 by omega]
    simp only [posternref01_Bytes.l0]
    have h0 : (0 : Int) < 256 ^ i := Int.pow_pos (by decide)
    have h1 : 0 ≤ v / 256 ^ i := Int.ediv_nonneg hv.1 (Int.le_of_lt h0)
    have h2 : v / 256 ^ i ≤ v := Int.ediv_le_self _ hv.1
    have h3 : v / 256 ^ (i + 1) = v / 256 ^ i / 256 := by rw [Int.pow_succ, Int.ediv_ediv_of_nonneg (Int.le_of_lt h0)]
    rw [if_pos (by omega), if_pos (by rw [putB_length]; omega), show wrap64 ((i : Int) + 1) = ((i + 1 : Nat) : Int) by unfold wrap64; omega]
    rw [← ih (i + 1) k (by omega), putB_succ, h3]
    generalize v / 256 ^ i = z at *
    rw [Int.tdiv_eq_ediv_of_nonneg h1, Int.tmod_eq_emod_of_nonneg h1, show IntKind.u64.wrap (z / 256) = z / 256 by rw [IntKind.wrap_u64]; omega, show z % 256 % 256 = z % 256 by omega]
    rfl
theorem RPut_ (v : Int) (hv : 0 ≤ v ∧ v < 18446744073709551616) (n : Nat) (h8 : n ≤ 8) : posternref01_Bytes.f 9 v (n : Int) = some (putB v n) := by
  have := rput_go v hv n h8 n 0 (8 - n) (by omega)
  rw [show n + (8 - n) + 1 = 9 by omega, Int.pow_zero, Int.ediv_one] at this
  exact this
theorem RLoad_arg (g : Nat) (a s : Int) (w : World) (h1 : s ≠ 1) (h2 : s ≠ 2) (h4 : s ≠ 4) (h8 : s ≠ 8) :
    Calls Try.prog 51 #[.pointer (some ⟨g, 0, none⟩), .int .u64 a, .int .i64 s] w fun e w' => e = .returned (.tuple #[.int .u64 0, .int .i64 2]) ∧ w = w' := by
  have b1 : (s != 1) = true := by simpa using h1
  have b2 : (s != 2) = true := by simpa using h2
  have b4 : (s != 4) = true := by simpa using h4
  have b8 : (s != 8) = true := by simpa using h8
  clear h1 h2 h4 h8
  go_enter Try.func51, Try.ntmps51
  go_wp2
  go_ret2
  exact ⟨rfl, rfl⟩
theorem RLoad_fail (g : Nat) (a s er : Int) (w : World) (hs : okSize s) (he : er ≠ 0)
    (hR : Calls Try.prog 52 #[.pointer (some ⟨g, 0, none⟩), .int .u64 a, .int .i64 s] w fun x w' => ∃ v, x = .returned (.tuple #[v, .int .i64 er]) ∧ Below w.heap.size w w') :
    Calls Try.prog 51 #[.pointer (some ⟨g, 0, none⟩), .int .u64 a, .int .i64 s] w fun e w' => e = .returned (.tuple #[.int .u64 0, .int .i64 er]) ∧ Below w.heap.size w w' := by
  have HC := Lib.hid hR
  have b1 : (er != 0) = true := by simpa using he
  clear hR he
  unfold okSize at hs
  rcases hs with rfl | rfl | rfl | rfl
  all_goals
    go_enter Try.func51, Try.ntmps51
    go_wp2_with fail
    refine HC.out.mono ?_
    rintro e w1 ⟨v, rfl, hB⟩
    have HB := Lib.hid hB
    clear hB
    go_wp2
    go_ret2
    exact ⟨rfl, HB.out⟩
theorem RLoad_ok (g : Nat) (a s v : Int) (l : List Int) (w : World) (hs : okSize s) (hv : posternref01_Number.f 9 l = some v)
    (hR : Calls Try.prog 52 #[.pointer (some ⟨g, 0, none⟩), .int .u64 a, .int .i64 s] w fun x w' => ∃ v, x = .returned (.tuple #[v, .int .i64 0]) ∧ OV w' w.heap.size v l ∧ Below w.heap.size w w') :
    Calls Try.prog 51 #[.pointer (some ⟨g, 0, none⟩), .int .u64 a, .int .i64 s] w fun e w' => e = .returned (.tuple #[.int .u64 v, .int .i64 0]) ∧ Below w.heap.size w w' := by
  have HC := Lib.hid hR
  have HV := Lib.hid hv
  clear hR hv
  unfold okSize at hs
  rcases hs with rfl | rfl | rfl | rfl
  all_goals
    go_enter Try.func51, Try.ntmps51
    go_wp2_with fail
    refine HC.out.mono ?_
    rintro e w1 ⟨u, rfl, hO, hB⟩
    obtain ⟨A, c, rfl⟩ := Kd.R_slice hO
    obtain ⟨h1, h2, h3⟩ := Kd.R_reads' hO
    have HB := Lib.hid hB
    have HN := Lib.hid (posternref01_Number.calls 9 A c l v w1 h3 (by omega) HV.out)
    clear hB hO h1 h2 h3
    go_wp2_with fail
    refine HN.out.mono ?_
    rintro e w2 ⟨rfl, q, rfl⟩
    go_wp2
    go_ret2
    exact ⟨rfl, pw_below_drewN HB.out q⟩
theorem RStore_arg (g : Nat) (a s v : Int) (w : World) (h1 : s ≠ 1) (h2 : s ≠ 2) (h4 : s ≠ 4) (h8 : s ≠ 8) :
    Calls Try.prog 42 #[.pointer (some ⟨g, 0, none⟩), .int .u64 a, .int .i64 s, .int .u64 v] w fun e w' => e = .returned (.int .i64 2) ∧ w = w' := by
  have b1 : (s != 1) = true := by simpa using h1
  have b2 : (s != 2) = true := by simpa using h2
  have b4 : (s != 4) = true := by simpa using h4
  have b8 : (s != 8) = true := by simpa using h8
  clear h1 h2 h4 h8
  go_enter Try.func42, Try.ntmps42
  go_wp2
  go_ret
  exact ⟨rfl, rfl⟩
theorem RPut_call (v : Int) (hv : 0 ≤ v ∧ v < 18446744073709551616) (n : Nat) (h8 : n ≤ 8) (w : World) :
    Calls Try.prog 58 #[.int .u64 v, .int .i64 (n : Int)] w fun e w' => ∃ A c, e = .returned (.slice A n c) ∧ n ≤ c ∧ Kd.C (Kd.int .u8) w' A (putB v n).length (putB v n) ∧ (∀ ad, A = some ad → w.heap.size ≤ ad.block) ∧ Below w.heap.size w w' := by
  refine (posternref01_Bytes.calls 9 v n (putB v n) w (RPut_ v hv n h8)).mono ?_
  rintro e w' ⟨v0, rfl, hR, hB⟩
  obtain ⟨A, c, rfl⟩ := Kd.R_slice hR
  obtain ⟨h1, h2, h3⟩ := Kd.R_reads' hR
  rw [putB_length] at h2
  refine ⟨A, c, by rw [putB_length], h2, h3, fun ad e1 => ?_, hB⟩
  obtain ⟨_, inner, ho, _⟩ := hR
  exact own_base ho ad.block (by rw [e1]; rfl)
theorem RStore_ok (g : Nat) (a v : Int) (n : Nat) (w : World) (hs : okSize n) (hv : 0 ≤ v ∧ v < 18446744073709551616) {er : Int} {T : World → Prop}
    (hW : ∀ w1 A c, Below w.heap.size w w1 → Kd.C (Kd.int .u8) w1 A (putB v n).length (putB v n) → n ≤ c → (∀ ad, A = some ad → w.heap.size ≤ ad.block) → Calls Try.prog 53 #[.pointer (some ⟨g, 0, none⟩), .int .u64 a, .slice A n c] w1 fun x w' => x = .returned (.int .i64 er) ∧ T w') :
    Calls Try.prog 42 #[.pointer (some ⟨g, 0, none⟩), .int .u64 a, .int .i64 (n : Int), .int .u64 v] w fun x w' => x = .returned (.int .i64 er) ∧ T w' := by
  have HW := Lib.hid hW
  have h8 : n ≤ 8 := by unfold okSize at hs; omega
  have HP := Lib.hid (RPut_call v hv n h8 w)
  have hs' : n = 1 ∨ n = 2 ∨ n = 4 ∨ n = 8 := by unfold okSize at hs; omega
  clear hW hv h8 hs
  rcases hs' with rfl | rfl | rfl | rfl
  all_goals
    go_enter Try.func42, Try.ntmps42
    go_wp2_with fail
    refine HP.out.mono ?_
    rintro e w1 ⟨A, c, rfl, h1, h2, h3, h4⟩
    have HX := Lib.hid (HW.out w1 A c h4 h2 h1 h3)
    clear h1 h2 h3 h4 HP HW
    go_wp2_with fail
    refine HX.out.mono ?_
    rintro e w2 ⟨rfl, hT⟩
    have HT := Lib.hid hT
    clear hT HX
    go_wp2
    go_ret
    exact ⟨rfl, HT.out⟩
def loadD (ds : List DR) (a s : Int) : Int × Int := if ¬ okSize s then (2, 0) else if (readD ds a s).1 = 0 then (0, num (readD ds a s).2) else ((readD ds a s).1, 0)
def storeD (ds : List DR) (a s v : Int) : Int × List DR := if ¬ okSize s then (2, ds) else writeD ds a (putB v s.toNat)
/-- The document's memory lies at g and has these regions. -/
def DQ (w : World) (F : Nat → Prop) (g : Nat) (rs : List DR) : Prop := ∃ ds : List DE, ds.map (·.r) = rs ∧ DIx w F g ds
section
variable {w w' : World} {F : Nat → Prop} {g : Nat} {rs : List DR}
theorem DQ.below (h : DQ w F g rs) (hb : Below w.heap.size w w') : DQ w' F g rs := by obtain ⟨es, e, h⟩ := h; exact ⟨es, e, h.below hb⟩
theorem DQ.drewN (h : DQ w F g rs) (n : Nat) : DQ (w.drewN n) F g rs := by obtain ⟨es, e, h⟩ := h; exact ⟨es, e, h.drewN n⟩
theorem DQ.step {G G' : Nat → Prop} (h : DQ w F g rs) (hs : Step w w' G G') (ha : ∀ b, F b → ¬ G b) : DQ w' F g rs := by obtain ⟨es, e, h⟩ := h; exact ⟨es, e, h.step hs ha⟩
theorem DQ.lt (h : DQ w F g rs) : ∀ b, F b → b < w.heap.size := by obtain ⟨es, e, h⟩ := h; exact h.lt
theorem DQ.ok (h : DQ w F g rs) : ∀ r ∈ rs, r.Ok := by
  obtain ⟨es, rfl, h⟩ := h
  intro r hr
  obtain ⟨e, he, rfl⟩ := List.mem_map.1 hr
  obtain ⟨i, hi⟩ := List.mem_iff_getElem?.1 he
  exact (h.regs i e hi).ok
theorem r_count (h : DQ w F g rs) : Calls Try.prog 24 #[.pointer (some ⟨g, 0, none⟩)] w fun e w' => e = .returned (.int .i64 (countD rs : Int)) ∧ Below w.heap.size w w' := by
  obtain ⟨es, rfl, h⟩ := h
  exact RCount_ h
theorem r_of (h : DQ w F g rs) (a : Int) (ha : 0 ≤ a ∧ a < 18446744073709551616) : Calls Try.prog 55 #[.pointer (some ⟨g, 0, none⟩), .int .u64 a] w fun e w' => e = .returned (ofV rs a) ∧ Below w.heap.size w w' := by
  obtain ⟨es, rfl, h⟩ := h
  exact Of_ h a ha
theorem r_has (h : DQ w F g rs) (id : Int) : Calls Try.prog 27 #[.pointer (some ⟨g, 0, none⟩), .int .i64 id] w fun e w' => e = .returned (.bool (hasD rs id)) ∧ w = w' := by
  obtain ⟨es, rfl, h⟩ := h
  exact Has_ h id
theorem r_read (h : DQ w F g rs) (a n : Int) (ha : 0 ≤ a ∧ a < 18446744073709551616) :
    Calls Try.prog 52 #[.pointer (some ⟨g, 0, none⟩), .int .u64 a, .int .i64 n] w fun x w' => ∃ v, x = .returned (.tuple #[v, .int .i64 (readD rs a n).1]) ∧ OV w' w.heap.size v (readD rs a n).2 ∧ Below w.heap.size w w' := by
  obtain ⟨es, rfl, h⟩ := h
  exact RRead_ h a n ha
theorem readD_len (h : DQ w F g rs) {a n : Int} (hn : 1 ≤ n) (h0 : (readD rs a n).1 = 0) : (readD rs a n).2.length ≤ n.toNat ∧ Bs (readD rs a n).2 := by
  unfold readD at h0 ⊢
  rw [if_neg (by omega), if_neg (by omega)] at h0 ⊢
  cases hm : atD rs a n with
  | none => rw [hm] at h0; exact absurd h0 (by simp)
  | some ed =>
    obtain ⟨k, r, d⟩ := ed
    rw [hm] at h0
    simp only at h0 ⊢
    have hr : r ∈ rs := by
      unfold atD at hm
      cases hf : rs[rs.findIdx (inD a)]? with
      | none => rw [hf] at hm; cases hm
      | some r2 =>
        rw [hf] at hm
        simp only at hm
        split at hm
        · cases hm; exact List.mem_iff_getElem?.2 ⟨_, hf⟩
        · cases hm
    split at h0
    · exact absurd h0 (by simp)
    · rename_i hp
      rw [if_neg hp]
      split at h0
      · rename_i ho
        rw [if_pos ho]
        refine ⟨by simp only [List.length_take]; omega, fun x hx => (h.ok r hr).bs x (List.mem_of_mem_drop (List.mem_of_mem_take hx))⟩
      · exact absurd h0 (by simp)
theorem r_load (h : DQ w F g rs) (a s : Int) (ha : 0 ≤ a ∧ a < 18446744073709551616) :
    Calls Try.prog 51 #[.pointer (some ⟨g, 0, none⟩), .int .u64 a, .int .i64 s] w fun x w' => x = .returned (.tuple #[.int .u64 (loadD rs a s).2, .int .i64 (loadD rs a s).1]) ∧ Below w.heap.size w w' := by
  unfold loadD
  by_cases hs : okSize s
  · rw [if_neg (by simpa using hs)]
    have hn : 1 ≤ s := by unfold okSize at hs; omega
    have hC := r_read h a s ha
    by_cases h0 : (readD rs a s).1 = 0
    · rw [if_pos h0]
      obtain ⟨hl, hb⟩ := readD_len h hn h0
      rw [h0] at hC
      exact RLoad_ok g a s _ (readD rs a s).2 w hs (RNum_ _ hb (by unfold okSize at hs; omega)) hC
    · rw [if_neg h0]
      exact RLoad_fail g a s _ w hs h0 (hC.mono fun x w' ⟨v, e1, _, e3⟩ => ⟨v, e1, e3⟩)
  · rw [if_pos hs]
    unfold okSize at hs
    exact (RLoad_arg g a s w (by omega) (by omega) (by omega) (by omega)).mono fun x w' ⟨e1, e2⟩ => ⟨e1, e2 ▸ Below.refl _ _⟩
theorem r_write (h : DQ w F g rs) (a : Int) (ha : 0 ≤ a ∧ a < 18446744073709551616) (ao : Option Addr) (xs : List Int) (c : Nat) (hC : Kd.C (Kd.int .u8) w ao xs.length xs) (hA : ∀ ad, ao = some ad → 0 < xs.length → ¬ F ad.block) (hxc : xs.length ≤ c) (hbs : Bs xs) :
    Calls Try.prog 53 #[.pointer (some ⟨g, 0, none⟩), .int .u64 a, .slice ao xs.length c] w fun x w' => x = .returned (.int .i64 (writeD rs a xs).1) ∧ DQ w' F g (writeD rs a xs).2 ∧ Step w w' F F := by
  obtain ⟨ds, rfl, h⟩ := h
  unfold writeD
  by_cases h0 : xs.length = 0
  · rw [if_pos h0, h0]
    exact (RWrite_zero g a ao c w).mono fun x w' ⟨e1, e2⟩ => ⟨e1, e2 ▸ ⟨ds, rfl, h⟩, e2 ▸ Step.refl _ _⟩
  rw [if_neg h0]
  have hn : 0 < xs.length := by omega
  cases he : ds[(ds.map (·.r)).findIdx (inD a)]? with
  | none =>
    have hm : (ds.map (·.r))[(ds.map (·.r)).findIdx (inD a)]? = none := by rw [List.getElem?_map, he]; rfl
    rw [atD_none hm]
    exact (RWrite_none h a ha ao xs.length c hn hm).mono fun x w' ⟨e1, e2⟩ => ⟨e1, ⟨ds, rfl, h.below e2⟩, Step.of_below e2 F⟩
  | some e =>
    have hm : (ds.map (·.r))[(ds.map (·.r)).findIdx (inD a)]? = some e.r := by rw [List.getElem?_map, he]; rfl
    rw [atD_some hm]
    by_cases c1 : (xs.length : Int) ≤ (e.r.bytes.length : Int) - (a - e.r.base)
    · rw [if_pos c1]
      simp only
      by_cases c2 : e.r.perm / 2 % 2 = 0
      · rw [if_pos c2]
        exact (RWrite_short h a ha ao xs.length c hn e he (.inr c2)).mono fun x w' ⟨e1, e2⟩ => ⟨e1, ⟨ds, rfl, h.below e2⟩, Step.of_below e2 F⟩
      · rw [if_neg c2]
        exact (RWrite_ok h a ha ao c hn hC hA hxc hbs e he c1 c2).mono fun x w' ⟨e1, e2, e3⟩ => ⟨e1, ⟨_, by rw [List.map_set]; rfl, e2⟩, e3⟩
    · rw [if_neg c1]
      exact (RWrite_short h a ha ao xs.length c hn e he (.inl c1)).mono fun x w' ⟨e1, e2⟩ => ⟨e1, ⟨ds, rfl, h.below e2⟩, Step.of_below e2 F⟩
theorem r_store (h : DQ w F g rs) (a s v : Int) (ha : 0 ≤ a ∧ a < 18446744073709551616) (hv : 0 ≤ v ∧ v < 18446744073709551616) :
    Calls Try.prog 42 #[.pointer (some ⟨g, 0, none⟩), .int .u64 a, .int .i64 s, .int .u64 v] w fun x w' => x = .returned (.int .i64 (storeD rs a s v).1) ∧ DQ w' F g (storeD rs a s v).2 ∧ Step w w' F F := by
  unfold storeD
  by_cases hs : okSize s
  · rw [if_neg (by simpa using hs)]
    obtain ⟨n, rfl⟩ := Int.eq_ofNat_of_zero_le (show 0 ≤ s by unfold okSize at hs; omega)
    rw [Int.toNat_natCast]
    refine RStore_ok g a v n w hs hv (T := fun w' => DQ w' F g (writeD rs a (putB v n)).2 ∧ Step w w' F F) fun w1 A c hB hC hc hA => ?_
    have := r_write (h.below hB) a ha A (putB v n) c hC (fun ad e1 _ hF => by have := h.lt _ hF; have := hA ad e1; omega) (by rw [putB_length]; exact hc) (putB_byte v n)
    rw [putB_length] at this
    exact this.mono fun x w' ⟨e1, e2, e3⟩ => ⟨e1, e2, (Step.of_below hB F).trans e3⟩
  · rw [if_pos hs]
    unfold okSize at hs
    exact (RStore_arg g a s v w (by omega) (by omega) (by omega) (by omega)).mono fun x w' ⟨e1, e2⟩ => ⟨e1, e2 ▸ h, e2 ▸ Step.refl _ _⟩
theorem r_kill (h : DQ w F g rs) (id : Int) :
    Calls Try.prog 50 #[.pointer (some ⟨g, 0, none⟩), .int .i64 id] w fun x w' => x = .returned (.int .i64 (killD rs id).1) ∧ DQ w' F g (killD rs id).2 ∧ Step w w' F F := by
  obtain ⟨ds, rfl, h⟩ := h
  unfold killD
  cases hh : hasD (ds.map (·.r)) id with
  | false =>
    rw [if_neg (by simp)]
    exact (Kill_no h id hh).mono fun x w' ⟨e1, e2⟩ => ⟨e1, e2 ▸ ⟨ds, rfl, h⟩, e2 ▸ Step.refl _ _⟩
  | true =>
    rw [if_pos rfl]
    obtain ⟨k, r, rfl, hr, hl⟩ := has_true hh
    rw [List.getElem?_map] at hr
    obtain ⟨e, he, rfl⟩ := Option.map_eq_some_iff.1 hr
    refine (Kill_yes h k e he hh).mono fun x w' ⟨e1, e2, e3⟩ => ⟨e1, ⟨_, ?_, e2⟩, e3⟩
    rw [Int.toNat_natCast]
    apply List.ext_getElem?
    intro j
    have hk := (List.getElem?_eq_some_iff.1 he).1
    rw [List.getElem?_map, List.getElem?_set, List.getElem?_modify, List.getElem?_map]
    by_cases hkj : k = j
    · subst hkj; rw [if_pos rfl, if_pos hk, he]; simp [killDE]
    · rw [if_neg hkj]; cases ds[j]? <;> simp [hkj]
theorem r_poke (h : DQ w F g rs) (id a : Int) (ha : -9223372036854775808 ≤ a ∧ a ≤ 9223372036854775807) (ao : Option Addr) (xs : List Int) (c : Nat) (hC : Kd.C (Kd.int .u8) w ao xs.length xs) (hA : ∀ ad, ao = some ad → 0 < xs.length → ¬ F ad.block) (hxc : xs.length ≤ c) (hbs : Bs xs) :
    Calls Try.prog 54 #[.pointer (some ⟨g, 0, none⟩), .int .i64 id, .int .i64 a, .slice ao xs.length c] w fun x w' => x = .returned (.int .i64 (pokeD rs id a xs).1) ∧ DQ w' F g (pokeD rs id a xs).2 ∧ Step w w' F F := by
  obtain ⟨ds, rfl, h⟩ := h
  unfold pokeD
  cases hh : hasD (ds.map (·.r)) id with
  | false =>
    rw [if_neg (by simp)]
    exact (RPoke_no h id a _ hh).mono fun x w' ⟨e1, e2⟩ => ⟨e1, e2 ▸ ⟨ds, rfl, h⟩, e2 ▸ Step.refl _ _⟩
  | true =>
    rw [if_pos rfl]
    obtain ⟨k, r, rfl, hr, hl⟩ := has_true hh
    rw [Int.toNat_natCast, hr]
    rw [List.getElem?_map] at hr
    obtain ⟨e, he, rfl⟩ := Option.map_eq_some_iff.1 hr
    simp only
    by_cases hok : 0 ≤ a ∧ a + xs.length ≤ e.r.bytes.length
    · rw [if_pos hok]
      obtain ⟨dn, rfl⟩ := Int.eq_ofNat_of_zero_le hok.1
      rw [Int.toNat_natCast]
      exact (RPoke_ok h k dn ao c e he hh (by omega) hC hA hxc hbs).mono fun x w' ⟨e1, e2, e3⟩ => ⟨e1, ⟨_, by rw [List.map_set]; rfl, e2⟩, e3⟩
    · rw [if_neg hok]
      exact (RPoke_arg h k a ao xs.length c e he hh hC.2.1 ha hok).mono fun x w' ⟨e1, e2⟩ => ⟨e1, e2 ▸ ⟨ds, rfl, h⟩, e2 ▸ Step.refl _ _⟩
theorem r_add (h : DQ w F g rs) (hlim : rs.length < 99999) (b s p : Int) (hb : 0 ≤ b ∧ b < 18446744073709551616) (hs : -9223372036854775808 ≤ s ∧ s < 9223372036854775808) :
    Calls Try.prog 36 #[.pointer (some ⟨g, 0, none⟩), .int .u64 b, .int .i64 s, .int .i64 p] w fun e w' =>
      e = .returned (.tuple #[.int .i64 (addD rs b s p).1, .int .i64 (addD rs b s p).2.1]) ∧ ∃ F', DQ w' F' g (addD rs b s p).2.2 ∧ Step w w' F F' := by
  obtain ⟨ds, rfl, h⟩ := h
  rw [List.length_map] at hlim
  unfold addD
  by_cases ha : argOk b s p
  · rw [if_neg (by simpa using ha)]
    have hA := RAdd_go h hlim b s p hb ha
    by_cases h1 : (ds.map (·.r)).any (busyD b s) = true
    · rw [if_pos h1]
      refine hA.mono fun x w' hh => ?_
      obtain ⟨e1, e2⟩ := hh.1 h1
      exact ⟨e1, F, ⟨ds, rfl, h.below e2⟩, Step.of_below e2 F⟩
    · rw [if_neg h1]
      have h1' : (ds.map (·.r)).any (busyD b s) = false := by simpa using h1
      by_cases h2 : 4096 ≤ countD (ds.map (·.r))
      · rw [if_pos h2]
        refine hA.mono fun x w' hh => ?_
        obtain ⟨e1, e2⟩ := hh.2.1 h1' h2
        exact ⟨e1, F, ⟨ds, rfl, h.below e2⟩, Step.of_below e2 F⟩
      · rw [if_neg h2, List.length_map]
        refine hA.mono fun x w' hh => ?_
        obtain ⟨e1, F', en, e2, e3, e4⟩ := hh.2.2 h1' (by omega)
        exact ⟨e1, F', ⟨_, by rw [List.map_append, ← e2]; rfl, e3⟩, e4⟩
  · rw [if_pos ha]
    exact (RAdd_arg g b s p w hb hs ha).mono fun x w' ⟨e1, e2⟩ => ⟨e1, F, e2 ▸ ⟨ds, rfl, h⟩, e2 ▸ Step.refl _ _⟩
end
end Go.Proofs.Ytpjgaacdohiomaa.MemRG
namespace Go.Proofs.Ytpjgaacdohiomaa.MemRP
open Go.Proofs.Ytpjgaacdohiomaa.Mem1 Go.Proofs.Ytpjgaacdohiomaa.MemB Go.Proofs.Ytpjgaacdohiomaa.Mem6 Go.Proofs.Ytpjgaacdohiomaa.Mem8 Go.Proofs.Ytpjgaacdohiomaa.Mem9 Go.Proofs.Ytpjgaacdohiomaa.MemN Go.Proofs.Ytpjgaacdohiomaa.MemC Go.Proofs.Ytpjgaacdohiomaa.MemD Go.Proofs.Ytpjgaacdohiomaa.MemQ Go.Proofs.Ytpjgaacdohiomaa.MemK Go.Proofs.Ytpjgaacdohiomaa.MemP Go.Proofs.Ytpjgaacdohiomaa.MemRA Go.Proofs.Ytpjgaacdohiomaa.MemRB Go.Proofs.Ytpjgaacdohiomaa.MemRC Go.Proofs.Ytpjgaacdohiomaa.MemRD Go.Proofs.Ytpjgaacdohiomaa.MemRE Go.Proofs.Ytpjgaacdohiomaa.MemRN Go.Proofs.Ytpjgaacdohiomaa.MemRF Go.Proofs.Ytpjgaacdohiomaa.MemRG
set_option linter.unusedVariables false
set_option linter.unusedSimpArgs false
/-- A live region as the program has it. -/
def mkR (i : Nat) (d : DR) : Rg := ⟨i, d.base, d.perm, d.bytes, if d.perm < 4 then none else some d.set⟩
def liveQ : Nat → List DR → List Rg
  | _, [] => []
  | i, d :: ds => if d.live = true then mkR i d :: liveQ (i + 1) ds else liveQ (i + 1) ds
/-- How many live ahead of a place. -/
def pos (ds : List DR) (k : Nat) : Nat := (ds.take k).countP (·.live)
theorem pos_zero (ds : List DR) : pos ds 0 = 0 := rfl
theorem pos_cons (d : DR) (ds : List DR) (k : Nat) : pos (d :: ds) (k + 1) = pos ds k + if d.live = true then 1 else 0 := by
  unfold pos
  rw [List.take_succ_cons, List.countP_cons]
theorem live_len : ∀ (ds : List DR) (i : Nat), (liveQ i ds).length = countD ds
  | [], i => rfl
  | d :: ds, i => by
    have := live_len ds (i + 1)
    unfold countD at *
    rw [List.countP_cons]
    unfold liveQ
    by_cases h : d.live = true
    · rw [if_pos h, if_pos h, List.length_cons, this]
    · rw [if_neg h, if_neg h, this]; rfl
theorem live_get : ∀ (ds : List DR) (i k : Nat) (d : DR), ds[k]? = some d → d.live = true → (liveQ i ds)[pos ds k]? = some (mkR (i + k) d)
  | [], i, k, d, h, _ => by simp at h
  | x :: ds, i, 0, d, h, hl => by
    simp at h; subst h
    unfold liveQ
    rw [if_pos hl, pos_zero]
    rfl
  | x :: ds, i, k + 1, d, h, hl => by
    simp at h
    have := live_get ds (i + 1) k d h hl
    rw [show i + 1 + k = i + (k + 1) by omega] at this
    unfold liveQ
    rw [pos_cons]
    by_cases hx : x.live = true
    · rw [if_pos hx, if_pos hx, List.getElem?_cons_succ]; exact this
    · rw [if_neg hx, if_neg hx]; exact this
theorem live_end : ∀ (ds : List DR) (i k : Nat), ds[k]? = none → (liveQ i ds)[pos ds k]? = none := fun ds i k h => by
  rw [List.getElem?_eq_none_iff] at h ⊢
  rw [live_len]
  unfold pos countD
  rw [List.take_of_length_le h]
  exact Nat.le_refl _
theorem live_set : ∀ (ds : List DR) (i k : Nat) (d d' : DR), ds[k]? = some d → d.live = true → d'.live = true → liveQ i (ds.set k d') = (liveQ i ds).set (pos ds k) (mkR (i + k) d')
  | [], i, k, d, d', h, _, _ => by simp at h
  | x :: ds, i, 0, d, d', h, hl, hl' => by
    simp at h; subst h
    rw [List.set_cons_zero]
    unfold liveQ
    rw [if_pos hl, if_pos hl', pos_zero, List.set_cons_zero]
    rfl
  | x :: ds, i, k + 1, d, d', h, hl, hl' => by
    simp at h
    have := live_set ds (i + 1) k d d' h hl hl'
    rw [show i + 1 + k = i + (k + 1) by omega] at this
    rw [List.set_cons_succ, pos_cons]
    unfold liveQ
    by_cases hx : x.live = true
    · rw [if_pos hx, if_pos hx, if_pos hx, List.set_cons_succ, this]
    · rw [if_neg hx, if_neg hx, if_neg hx, this]; rfl
theorem live_kill : ∀ (ds : List DR) (i k : Nat) (d : DR), ds[k]? = some d → d.live = true → liveQ i (ds.modify k (fun r => { r with live := false })) = (liveQ i ds).eraseIdx (pos ds k)
  | [], i, k, d, h, _ => by simp at h
  | x :: ds, i, 0, d, h, hl => by
    simp at h; subst h
    rw [List.modify_zero_cons]
    unfold liveQ
    rw [if_pos hl, if_neg (by simp), pos_zero, List.eraseIdx_cons_zero]
  | x :: ds, i, k + 1, d, h, hl => by
    simp at h
    have := live_kill ds (i + 1) k d h hl
    rw [List.modify_succ_cons, pos_cons]
    unfold liveQ
    by_cases hx : x.live = true
    · rw [if_pos hx, if_pos hx, if_pos hx, List.eraseIdx_cons_succ, this]
    · rw [if_neg hx, if_neg hx, if_neg hx, this]; rfl
theorem live_append : ∀ (ds : List DR) (i : Nat) (d : DR), d.live = true → liveQ i (ds ++ [d]) = liveQ i ds ++ [mkR (i + ds.length) d]
  | [], i, d, h => by simp [liveQ, h]
  | x :: ds, i, d, h => by
    have := live_append ds (i + 1) d h
    rw [show i + 1 + ds.length = i + (x :: ds).length by simp; omega] at this
    rw [List.cons_append]
    unfold liveQ
    by_cases hx : x.live = true
    · rw [if_pos hx, if_pos hx, this, List.cons_append]
    · rw [if_neg hx, if_neg hx, this]
theorem in_mk (a : Int) (i : Nat) (d : DR) : inD a d = (d.live && inQ a (mkR i d)) := by
  unfold inD inQ mkR
  rw [Bool.and_assoc]
theorem live_find (a : Int) : ∀ (ds : List DR) (i : Nat), (liveQ i ds).findIdx (inQ a) = pos ds (ds.findIdx (inD a))
  | [], i => rfl
  | d :: ds, i => by
    have ih := live_find a ds (i + 1)
    have hm := in_mk a i d
    unfold liveQ
    rw [List.findIdx_cons]
    by_cases hl : d.live = true
    · rw [if_pos hl, List.findIdx_cons]
      rw [hl, Bool.true_and] at hm
      rw [hm]
      cases inQ a (mkR i d) with
      | true => rfl
      | false => simp only [cond_false]; rw [ih, pos_cons, if_pos hl]
    · rw [if_neg hl, ih, show inD a d = false by rw [hm]; simp [hl]]
      simp only [cond_false]
      rw [pos_cons, if_neg hl]
      rfl
theorem at_eq (ds : List DR) (a n : Int) : atQ (liveQ 0 ds) a n = (atD ds a n).map (fun x => (pos ds x.1, mkR x.1 x.2.1, x.2.2)) := by
  unfold atQ atD
  rw [live_find]
  cases hr : ds[ds.findIdx (inD a)]? with
  | none => rw [live_end ds 0 _ hr]; rfl
  | some r =>
    have hl := (idx_in hr).1
    rw [live_get ds 0 _ r hr hl, Nat.zero_add]
    simp only
    show (if n ≤ r.bytes.length - (a - r.base) then _ else none) = _
    split <;> rfl
structure Rel (rs : List Rg) (nx : Int) (ds : List DR) : Prop where
  live : rs = liveQ 0 ds
  next : nx = (ds.length : Int)
  few : rs.length ≤ 4096
  ok : ∀ d ∈ ds, d.Ok
  set : ∀ d ∈ ds, d.perm < 4 → ∀ b ∈ d.set, b = true
theorem all_true {s : List Bool} {d m : Nat} (h : ∀ b ∈ s, b = true) : allSet s d m = true := by
  unfold allSet
  rw [List.all_eq_true]
  intro x hx
  exact h x (List.mem_of_mem_drop (List.mem_of_mem_take hx))
theorem atD_mem {ds : List DR} {a n : Int} {k : Nat} {r : DR} {d : Int} (h : atD ds a n = some (k, r, d)) : ds[k]? = some r ∧ r.live = true ∧ d = a - r.base ∧ 0 ≤ d ∧ n ≤ r.bytes.length - d := by
  unfold atD at h
  cases hf : ds[ds.findIdx (inD a)]? with
  | none => rw [hf] at h; cases h
  | some r2 =>
    rw [hf] at h
    simp only at h
    split at h
    · rename_i hn
      cases h
      obtain ⟨h1, h2, h3⟩ := idx_in hf
      exact ⟨hf, h1, rfl, by omega, hn⟩
    · cases h
section
variable {rs : List Rg} {nx : Int} {ds : List DR}
theorem read_same (h : Rel rs nx ds) (a n : Int) : readQ rs a n = readD ds a n := by
  rw [h.live]
  unfold readQ readD
  rw [at_eq]
  split
  · rfl
  split
  · rfl
  cases hm : atD ds a n with
  | none => rfl
  | some x =>
    obtain ⟨k, r, d⟩ := x
    obtain ⟨hr, hl, -⟩ := atD_mem hm
    have hset := h.set r (List.mem_iff_getElem?.2 ⟨k, hr⟩)
    simp only [Option.map_some]
    show (if r.perm % 2 = 0 then _ else _) = _
    have hs : setOk (mkR k r) d.toNat n.toNat = allSet r.set d.toNat n.toNat := by
      unfold setOk mkR
      simp only
      by_cases h4 : r.perm < 4
      · rw [if_pos h4, all_true (hset h4)]
      · rw [if_neg h4]
    rw [hs]
    rfl
theorem load_same (h : Rel rs nx ds) (a n : Int) : loadQ rs a n = loadD ds a n := by
  unfold loadQ loadD
  rw [read_same h]
theorem lay_mk (k : Nat) (r : DR) (i : Nat) (xs : List Int) : mkR k (layD r i xs) = layR (mkR k r) i xs := by
  unfold mkR layD layR
  simp only
  by_cases h4 : r.perm < 4
  · rw [if_pos h4, if_pos h4]; rfl
  · rw [if_neg h4, if_neg h4]; rfl
theorem Rel.lay (h : Rel rs nx ds) {k : Nat} {r : DR} (hr : ds[k]? = some r) (hl : r.live = true) (i : Nat) (xs : List Int) (hfit : i + xs.length ≤ r.bytes.length) (hbs : Bs xs) : Rel (rs.set (pos ds k) (layR (mkR k r) i xs)) nx (ds.set k (layD r i xs)) := by
  have hrm := List.mem_iff_getElem?.2 ⟨k, hr⟩
  have hok := h.ok r hrm
  have hl1 : (over r.bytes xs i).length = r.bytes.length := over_len hfit
  have hl2 : (over r.set (List.replicate xs.length true) i).length = r.set.length := over_len (by rw [List.length_replicate, hok.slen]; exact hfit)
  refine ⟨?_, by rw [List.length_set]; exact h.next, by rw [List.length_set]; exact h.few, fun d hd => ?_, fun d hd h4 => ?_⟩
  · rw [live_set ds 0 k r _ hr hl (by exact hl), h.live, Nat.zero_add, lay_mk]
  · rcases List.mem_or_eq_of_mem_set hd with hd | rfl
    · exact h.ok d hd
    · exact ⟨by simp only [layD, hl1]; exact hok.len, by simp only [layD, hl1, hl2]; exact hok.slen, by simp only [layD, hl1]; exact hok.base, hok.perm, fun x hx => (over_mem hx).elim (hok.bs x) (hbs x)⟩
  · rcases List.mem_or_eq_of_mem_set hd with hd | rfl
    · exact h.set d hd h4
    · intro b hb
      rcases over_mem hb with hb | hb
      · exact h.set r hrm h4 b hb
      · exact List.eq_of_mem_replicate hb
theorem write_same (h : Rel rs nx ds) (a : Int) (xs : List Int) (hbs : Bs xs) : (writeQ rs a xs).1 = (writeD ds a xs).1 ∧ Rel (writeQ rs a xs).2 nx (writeD ds a xs).2 := by
  unfold writeQ writeD
  by_cases h0 : xs.length = 0
  · rw [if_pos h0, if_pos h0]; exact ⟨rfl, h⟩
  rw [if_neg h0, if_neg h0]
  have hat := at_eq ds a xs.length
  rw [← h.live] at hat
  rw [hat]
  cases hm : atD ds a xs.length with
  | none => exact ⟨rfl, h⟩
  | some x =>
    obtain ⟨k, r, d⟩ := x
    obtain ⟨hr, hl, hd, hd0, hn⟩ := atD_mem hm
    simp only [Option.map_some]
    show (if r.perm / 2 % 2 = 0 then _ else _ : Int × List Rg).1 = _ ∧ Rel (if r.perm / 2 % 2 = 0 then _ else _ : Int × List Rg).2 nx _
    by_cases hp : r.perm / 2 % 2 = 0
    · rw [if_pos hp, if_pos hp]; exact ⟨rfl, h⟩
    · rw [if_neg hp, if_neg hp]
      exact ⟨rfl, h.lay hr hl d.toNat xs (by omega) hbs⟩
theorem store_same (h : Rel rs nx ds) (a s v : Int) : (storeQ rs a s v).1 = (storeD ds a s v).1 ∧ Rel (storeQ rs a s v).2 nx (storeD ds a s v).2 := by
  unfold storeQ storeD
  by_cases hs : ¬ okSize s
  · rw [if_pos hs, if_pos hs]; exact ⟨rfl, h⟩
  · rw [if_neg hs, if_neg hs]; exact write_same h a _ (putB_byte v _)
theorem find_same (h : Rel rs nx ds) (a : Int) : findQ rs a = match atD ds a 1 with | some (k, r, d) => ((k : Int), d, true) | none => (0, 0, false) := by
  unfold findQ
  rw [h.live, at_eq]
  cases hm : atD ds a 1 with
  | none => rfl
  | some x => obtain ⟨k, r, d⟩ := x; rfl
/-! ### by id -/
theorem id_find : ∀ (ds : List DR) (i k : Nat), (liveQ i ds).find? (isIdQ ((i + k : Nat) : Int)) = (match ds[k]? with | some d => if d.live = true then some (mkR (i + k) d) else none | none => none) ∧ ∀ j : Int, j < i → (liveQ i ds).find? (isIdQ j) = none
  | [], i, k => ⟨by simp [liveQ], fun j _ => by simp [liveQ]⟩
  | d :: ds, i, 0 => by
    obtain ⟨h1, h2⟩ := id_find ds (i + 1) 0
    refine ⟨?_, fun j hj => ?_⟩
    · unfold liveQ
      by_cases hl : d.live = true
      · rw [if_pos hl]; simp [List.find?_cons, isIdQ, mkR, hl]
      · rw [if_neg hl, h2 ((i + 0 : Nat) : Int) (by omega)]; simp [hl]
    · unfold liveQ
      by_cases hl : d.live = true
      · rw [if_pos hl, List.find?_cons, show isIdQ j (mkR i d) = false by unfold isIdQ mkR; simp; omega]
        exact h2 j (by omega)
      · rw [if_neg hl]; exact h2 j (by omega)
  | d :: ds, i, k + 1 => by
    obtain ⟨h1, h2⟩ := id_find ds (i + 1) k
    refine ⟨?_, fun j hj => ?_⟩
    · rw [show i + 1 + k = i + (k + 1) by omega] at h1
      unfold liveQ
      rw [List.getElem?_cons_succ]
      by_cases hl : d.live = true
      · rw [if_pos hl, List.find?_cons, show isIdQ ((i + (k + 1) : Nat) : Int) (mkR i d) = false by unfold isIdQ mkR; simp; omega]
        exact h1
      · rw [if_neg hl]; exact h1
    · unfold liveQ
      by_cases hl : d.live = true
      · rw [if_pos hl, List.find?_cons, show isIdQ j (mkR i d) = false by unfold isIdQ mkR; simp; omega]
        exact h2 j (by omega)
      · rw [if_neg hl]; exact h2 j (by omega)
theorem id_idx : ∀ (ds : List DR) (i k : Nat) (d : DR), ds[k]? = some d → d.live = true → (liveQ i ds).findIdx (isIdQ ((i + k : Nat) : Int)) = pos ds k
  | [], i, k, d, h, _ => by simp at h
  | x :: ds, i, 0, d, h, hl => by
    simp at h; subst h
    unfold liveQ
    rw [if_pos hl, List.findIdx_cons, show isIdQ ((i + 0 : Nat) : Int) (mkR i x) = true by simp [isIdQ, mkR]]
    rfl
  | x :: ds, i, k + 1, d, h, hl => by
    simp at h
    have := id_idx ds (i + 1) k d h hl
    rw [show i + 1 + k = i + (k + 1) by omega] at this
    unfold liveQ
    rw [pos_cons]
    by_cases hx : x.live = true
    · rw [if_pos hx, if_pos hx, List.findIdx_cons, show isIdQ ((i + (k + 1) : Nat) : Int) (mkR i x) = false by unfold isIdQ mkR; simp; omega]
      simp only [cond_false]
      rw [this]
    · rw [if_neg hx, if_neg hx, this]; rfl
theorem id_yes (h : Rel rs nx ds) {id : Int} (hh : hasD ds id = true) : ∃ (k : Nat) (r : DR), id = (k : Int) ∧ ds[k]? = some r ∧ r.live = true ∧ idQ rs id = some (mkR k r) ∧ rs.findIdx (isIdQ id) = pos ds k := by
  obtain ⟨k, r, rfl, hr, hl⟩ := has_true hh
  refine ⟨k, r, rfl, hr, hl, ?_, ?_⟩
  · have := (id_find ds 0 k).1
    rw [hr, Nat.zero_add] at this
    unfold idQ
    rw [h.live, this]
    simp [hl]
  · have := id_idx ds 0 k r hr hl
    rw [Nat.zero_add] at this
    rw [h.live]; exact this
theorem id_no (h : Rel rs nx ds) {id : Int} (hh : hasD ds id = false) : idQ rs id = none := by
  unfold idQ
  rw [h.live]
  by_cases h0 : 0 ≤ id
  · obtain ⟨k, rfl⟩ := Int.eq_ofNat_of_zero_le h0
    have := (id_find ds 0 k).1
    rw [Nat.zero_add] at this
    rw [this]
    unfold hasD at hh
    rw [decide_eq_true h0, Bool.true_and, Int.toNat_natCast] at hh
    cases hr : ds[k]? with
    | none => rfl
    | some r => rw [hr] at hh; simp only at hh; simp [hh]
  · exact (id_find ds 0 0).2 id (by omega)
theorem kill_same (h : Rel rs nx ds) (id : Int) : (killQ rs id).1 = (killD ds id).1 ∧ Rel (killQ rs id).2 nx (killD ds id).2 ∧ idQ (killQ rs id).2 id = none := by
  unfold killQ killD
  cases hh : hasD ds id with
  | false =>
    rw [id_no h hh, if_neg (by simp)]
    exact ⟨rfl, h, id_no h hh⟩
  | true =>
    obtain ⟨k, r, rfl, hr, hl, h1, h2⟩ := id_yes h hh
    rw [h1, if_pos rfl, h2, Int.toNat_natCast]
    have hR : Rel (rs.eraseIdx (pos ds k)) nx (ds.modify k (fun r => { r with live := false })) := by
      have hmem : ∀ d ∈ ds.modify k (fun r => { r with live := false }), ∃ d0 ∈ ds, d = d0 ∨ d = { d0 with live := false } := fun d hd => by
        obtain ⟨j, hj⟩ := List.mem_iff_getElem?.1 hd
        rw [List.getElem?_modify] at hj
        cases hds : ds[j]? with
        | none => rw [hds] at hj; simp at hj
        | some d0 =>
          rw [hds] at hj
          refine ⟨d0, List.mem_iff_getElem?.2 ⟨j, hds⟩, ?_⟩
          by_cases hkj : k = j
          · simp [hkj] at hj; exact .inr hj.symm
          · simp [hkj] at hj; exact .inl hj.symm
      refine ⟨by rw [live_kill ds 0 k r hr hl, h.live], by rw [List.length_modify]; exact h.next, Nat.le_trans (List.length_eraseIdx_le ..) h.few, fun d hd => ?_, fun d hd => ?_⟩
      · obtain ⟨d0, h0, rfl | rfl⟩ := hmem d hd
        · exact h.ok _ h0
        · exact ⟨(h.ok d0 h0).len, (h.ok d0 h0).slen, (h.ok d0 h0).base, (h.ok d0 h0).perm, (h.ok d0 h0).bs⟩
      · obtain ⟨d0, h0, rfl | rfl⟩ := hmem d hd
        · exact h.set _ h0
        · exact h.set d0 h0
    refine ⟨rfl, hR, id_no hR ?_⟩
    unfold hasD
    rw [Int.toNat_natCast, List.getElem?_modify, hr]
    simp
theorem poke_same (h : Rel rs nx ds) (id a : Int) (xs : List Int) (hbs : Bs xs) : (pokeQ rs id a xs).1 = (pokeD ds id a xs).1 ∧ Rel (pokeQ rs id a xs).2 nx (pokeD ds id a xs).2 := by
  unfold pokeQ pokeD
  cases hh : hasD ds id with
  | false =>
    rw [id_no h hh, if_neg (by simp)]
    exact ⟨rfl, h⟩
  | true =>
    obtain ⟨k, r, rfl, hr, hl, h1, h2⟩ := id_yes h hh
    rw [h1, if_pos rfl, h2, Int.toNat_natCast, hr]
    simp only
    show (if 0 ≤ a ∧ a + xs.length ≤ r.bytes.length then _ else _ : Int × List Rg).1 = _ ∧ Rel (if 0 ≤ a ∧ a + xs.length ≤ r.bytes.length then _ else _ : Int × List Rg).2 nx _
    by_cases hok : 0 ≤ a ∧ a + xs.length ≤ r.bytes.length
    · rw [if_pos hok, if_pos hok]
      exact ⟨rfl, h.lay hr hl a.toNat xs (by omega) hbs⟩
    · rw [if_neg hok, if_neg hok]
      exact ⟨rfl, h⟩
theorem bytes_same (h : Rel rs nx ds) (id : Int) : (hasD ds id = false → bytesQ rs id = (14, []) ∧ (idQ rs id).isSome = false) ∧ (∀ (k : Nat) (r : DR), id = (k : Int) → ds[k]? = some r → hasD ds id = true → bytesQ rs id = (0, r.bytes) ∧ (idQ rs id).isSome = true) := by
  refine ⟨fun hh => ?_, fun k r hk hr hh => ?_⟩
  · unfold bytesQ
    rw [id_no h hh]; exact ⟨rfl, rfl⟩
  · obtain ⟨k', r', hk', hr', hl, h1, h2⟩ := id_yes h hh
    obtain rfl : k = k' := by omega
    rw [hr] at hr'
    obtain rfl := Option.some.inj hr'
    unfold bytesQ
    rw [h1]
    exact ⟨rfl, rfl⟩
theorem busy_mk {b s : Int} (hs : 1 ≤ s) (i : Nat) (d : DR) (hd : 0 < d.bytes.length) : busyD b s d = (d.live && busyQ b (b + (s - 1)) (mkR i d)) := by
  unfold busyD busyQ mkR
  cases d.live with
  | false => rfl
  | true =>
    simp only [Bool.true_and]
    rw [Bool.eq_iff_iff]
    simp only [Bool.or_eq_true, Bool.and_eq_true, decide_eq_true_eq]
    omega
theorem live_busy {b s : Int} (hs : 1 ≤ s) : ∀ (ds : List DR) (i : Nat), (∀ d ∈ ds, 0 < d.bytes.length) → (liveQ i ds).any (busyQ b (b + (s - 1))) = ds.any (busyD b s)
  | [], i, _ => rfl
  | d :: ds, i, h => by
    have ih := live_busy (b := b) hs ds (i + 1) (fun x hx => h x (List.mem_cons_of_mem _ hx))
    have hm := busy_mk (b := b) hs i d (h d List.mem_cons_self)
    unfold liveQ
    rw [List.any_cons]
    by_cases hl : d.live = true
    · rw [if_pos hl, List.any_cons, ih, hm, hl, Bool.true_and]
    · rw [if_neg hl, ih, hm, show d.live = false by simpa using hl, Bool.false_and, Bool.false_or]
theorem mk_new (n : Nat) (b p : Int) (s : Nat) : mkR n (newD b p s) = newR n b p s := by
  unfold mkR newD newR
  by_cases h4 : p < 4
  · simp [h4]
  · simp [h4]
theorem add_same (h : Rel rs nx ds) (b s p : Int) (hb : 0 ≤ b) : (addQ rs nx b s p).1 = (addD ds b s p).1 ∧ (addQ rs nx b s p).2.1 = (addD ds b s p).2.1 ∧ Rel (addQ rs nx b s p).2.2.1 (addQ rs nx b s p).2.2.2 (addD ds b s p).2.2 ∧ (addD ds b s p).2.2.length ≤ ds.length + 1 := by
  unfold addQ addD
  by_cases ha : argOk b s p
  · have hna : ¬ ¬ argOk b s p := not_not_intro ha
    simp only [if_neg hna]
    have hs1 : 1 ≤ s := ha.1
    have hbz := live_busy (b := b) hs1 ds 0 (fun d hd => (h.ok d hd).len.1)
    rw [← h.live] at hbz
    rw [hbz]
    by_cases h1 : ds.any (busyD b s) = true
    · rw [if_pos h1, if_pos h1]; exact ⟨rfl, rfl, h, by simp⟩
    rw [if_neg h1, if_neg h1]
    have hlen : rs.length = countD ds := by rw [h.live, live_len]
    by_cases h2 : rs.length = 4096
    · rw [if_pos h2, if_pos (by omega)]; exact ⟨rfl, rfl, h, by simp⟩
    · have := h.few
      rw [if_neg h2, if_neg (by omega)]
      obtain ⟨q1, q2, q3, q4, q5⟩ := ha
      refine ⟨h.next, rfl, ⟨?_, ?_, ?_, fun d hd => ?_, fun d hd h4 => ?_⟩, by simp⟩
      · simp only
        rw [live_append ds 0 _ (by rfl), Nat.zero_add, mk_new, ← h.live, h.next]
      · simp only [List.length_append, List.length_singleton]; rw [h.next]; omega
      · simp only [List.length_append, List.length_singleton]; omega
      · rcases List.mem_append.1 hd with hd | hd
        · exact h.ok d hd
        · obtain rfl := List.mem_singleton.1 hd
          exact ⟨by simp only [newD, List.length_replicate]; omega, by simp [newD], by simp only [newD, List.length_replicate]; omega, ⟨q3, q4⟩, fun x hx => by simp [newD] at hx; omega⟩
      · rcases List.mem_append.1 hd with hd | hd
        · exact h.set d hd h4
        · obtain rfl := List.mem_singleton.1 hd
          intro x hx
          simp only [newD] at hx h4
          have := List.eq_of_mem_replicate hx
          rw [this]; exact decide_eq_true h4
  · simp only [if_pos ha]; exact ⟨trivial, trivial, h, by simp⟩
theorem count_same (h : Rel rs nx ds) : rs.length = countD ds := by rw [h.live, live_len]
theorem Rel.start : Rel [] 0 [] := ⟨rfl, rfl, Nat.zero_le _, fun d hd => by simp at hd, fun d hd => by simp at hd⟩
theorem writeD_len (ds : List DR) (a : Int) (xs : List Int) : (writeD ds a xs).2.length = ds.length := by
  unfold writeD
  split
  · rfl
  · split
    · rfl
    · split <;> simp
theorem storeD_len (ds : List DR) (a s v : Int) : (storeD ds a s v).2.length = ds.length := by
  unfold storeD
  split
  · rfl
  · exact writeD_len _ _ _
theorem killD_len (ds : List DR) (id : Int) : (killD ds id).2.length = ds.length := by
  unfold killD
  split <;> simp
theorem pokeD_len (ds : List DR) (id a : Int) (xs : List Int) : (pokeD ds id a xs).2.length = ds.length := by
  unfold pokeD
  split
  · split
    · rfl
    · split <;> simp
  · rfl
end
end Go.Proofs.Ytpjgaacdohiomaa.MemRP
