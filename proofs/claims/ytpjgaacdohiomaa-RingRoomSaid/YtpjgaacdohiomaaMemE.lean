/- mem.Memory: Write, Store, Poke, walked by hand. -/
import Derived.Test.YtpjgaacdohiomaaMemD
namespace Go.Proofs.Ytpjgaacdohiomaa.MemE
open Go.RowKit Go.Proofs.Ytpjgaacdohiomaa.PMemCopies Go.Proofs.YtpjgaacdohiomaaW.PrintWords Go.Proofs.YtpjgaacdohiomaaW.PrintLast Go.Proofs.YtpjgaacdohiomaaW.PrintMore Go.Proofs.Ytpjgaacdohiomaa.Mw Go.Proofs.Ytpjgaacdohiomaa.Mem1 Go.Proofs.Ytpjgaacdohiomaa.Mem2 Go.Proofs.Ytpjgaacdohiomaa.Mem3 Go.Proofs.Ytpjgaacdohiomaa.Mem4 Go.Proofs.Ytpjgaacdohiomaa.Mem5 Go.Proofs.Ytpjgaacdohiomaa.Mem6 Go.Proofs.Ytpjgaacdohiomaa.MemA Go.Proofs.Ytpjgaacdohiomaa.MemB Go.Proofs.Ytpjgaacdohiomaa.Mem8 Go.Proofs.Ytpjgaacdohiomaa.Mem9 Go.Proofs.Ytpjgaacdohiomaa.MemN Go.Proofs.Ytpjgaacdohiomaa.MemC Go.Proofs.Ytpjgaacdohiomaa.MemD
set_option linter.unusedVariables false
set_option linter.unusedSimpArgs false
theorem perm_two (p : Int) (h : 0 ≤ p ∧ p ≤ 7) : (p / 2 % 2 = 0 → Go.bits .and .i64 p 2 = 0) ∧ (p / 2 % 2 ≠ 0 → Go.bits .and .i64 p 2 = 2) := by
  obtain ⟨n, rfl⟩ := Int.eq_ofNat_of_zero_le h.1
  exact (by decide +kernel : ∀ v : Fin 8, ((v.val : Int) / 2 % 2 = 0 → Go.bits .and .i64 (v.val : Int) 2 = 0) ∧ ((v.val : Int) / 2 % 2 ≠ 0 → Go.bits .and .i64 (v.val : Int) 2 = 2)) ⟨n, by omega⟩
/-- Write: the error's number, the regions. -/
def writeS (es : List Ent) (a : Int) (xs : List Int) : Int × List Ent :=
  if xs.length = 0 then (0, es) else
  match atR es a xs.length with
  | none => (10, es)
  | some (e, d) => if e.r.perm / 2 % 2 = 0 then (10, es) else (0, es.set (es.findIdx (inR a)) (layE e d.toNat xs))
section
variable {w w' : World} {F : Nat → Prop} {g : Nat} {es : List Ent} {nx : Int}
theorem atR_idx {a n : Int} {e : Ent} {d : Int} (h : atR es a n = some (e, d)) : es[es.findIdx (inR a)]? = some e := by
  unfold atR at h
  cases hf : es.find? (inR a) with
  | none => rw [hf] at h; cases h
  | some e' =>
    rw [hf] at h
    simp only at h
    split at h
    · cases h
      obtain ⟨hp, i, hi, he, hm⟩ := List.find?_eq_some_iff_getElem.1 hf
      have : es.findIdx (inR a) = i := (List.findIdx_eq hi).2 ⟨by rw [he]; exact hp, fun j hj => by simpa using hm j hj⟩
      rw [this, List.getElem?_eq_getElem hi, he]
    · cases h
theorem Write_zero (g : Nat) (a : Int) (ao : Option Addr) (c : Nat) (w : World) : Calls Try.prog 20 #[.pointer (some ⟨g, 0, none⟩), .int .u64 a, .slice ao 0 c] w fun x w' => x = .returned (.int .i64 0) ∧ w = w' := by
  go_enter Try.func20, Try.ntmps20
  go_wp2
  go_ret
  exact ⟨rfl, rfl⟩
theorem Write_miss (h : MIx w F g es nx) (a : Int) (ha : 0 ≤ a ∧ a < 18446744073709551616) (ao : Option Addr) (n c : Nat) (hn : 0 < n) (hm : atR es a n = none) :
    Calls Try.prog 20 #[.pointer (some ⟨g, 0, none⟩), .int .u64 a, .slice ao n c] w fun x w' => x = .returned (.int .i64 10) ∧ w = w' := by
  have HC := Lib.hid (at_ h a n ha (by omega))
  rw [hm] at HC
  simp only [atV] at HC
  have n1 : ¬ n = 0 := by omega
  have n2 : ((n : Int) == 0) = false := by simp; omega
  clear h ha hm hn
  go_enter Try.func20, Try.ntmps20
  go_wp2_with fail
  refine HC.out.mono ?_
  rintro e w1 ⟨rfl, rfl⟩
  go_wp2
  go_ret
  exact ⟨rfl, rfl⟩
theorem Write_perm (h : MIx w F g es nx) (a : Int) (ha : 0 ≤ a ∧ a < 18446744073709551616) (ao : Option Addr) (n c : Nat) (hn : 0 < n) (e : Ent) (d : Int) (hm : atR es a n = some (e, d)) (hp : e.r.perm / 2 % 2 = 0) :
    Calls Try.prog 20 #[.pointer (some ⟨g, 0, none⟩), .int .u64 a, .slice ao n c] w fun x w' => x = .returned (.int .i64 10) ∧ w = w' := by
  have HC := Lib.hid (at_ h a n ha (by omega))
  rw [hm] at HC
  simp only [atV] at HC
  obtain ⟨⟨i, hie⟩, -⟩ := atR_mem hm
  have hR := h.regs i e hie
  obtain ⟨cb, sv, r0, r1, r2, r3, r4, hcb, hsv⟩ := hR.cells
  have hb : Go.bits .and .i64 e.r.perm 2 = 0 := (perm_two _ hR.ok.perm).1 hp
  have n1 : ¬ n = 0 := by omega
  have n2 : ((n : Int) == 0) = false := by simp; omega
  clear h ha hm hn hp hie hR r0 r1 r3 r4 hcb hsv
  go_enter Try.func20, Try.ntmps20
  go_wp2_with fail
  refine HC.out.mono ?_
  rintro e w1 ⟨rfl, rfl⟩
  go_wp2
  go_ret
  exact ⟨rfl, rfl⟩
theorem Write_ok (h : MIx w F g es nx) (a : Int) (ha : 0 ≤ a ∧ a < 18446744073709551616) (ad : Addr) (xs : List Int) (c : Nat) (hC : Kd.C (Kd.int .u8) w (some ad) xs.length xs) (hxc : xs.length ≤ c) (hbs : Bs xs) (hn : 0 < xs.length) (e : Ent) (d : Int) (hm : atR es a xs.length = some (e, d)) (hp : e.r.perm / 2 % 2 ≠ 0) :
    Calls Try.prog 20 #[.pointer (some ⟨g, 0, none⟩), .int .u64 a, .slice (some ad) xs.length c] w fun x w' => x = .returned (.int .i64 0) ∧ LayD w w' e d.toNat xs xs.length := by
  have HC := Lib.hid (at_ h a xs.length ha (by omega))
  rw [hm] at HC
  simp only [atV] at HC
  obtain ⟨hfit, hd0⟩ := at_len hm (by omega)
  obtain ⟨dn, rfl⟩ := Int.eq_ofNat_of_zero_le hd0
  rw [Int.toNat_natCast, Int.toNat_natCast] at hfit
  rw [Int.toNat_natCast]
  obtain ⟨⟨i, hie⟩, -⟩ := atR_mem hm
  have hR := h.regs i e hie
  obtain ⟨cb, sv, r0, r1, r2, r3, r4, hcb, hsv⟩ := hR.cells
  have hb : Go.bits .and .i64 e.r.perm 2 = 2 := (perm_two _ hR.ok.perm).2 hp
  have HL := Lib.hid (lay_ hR dn ad c xs hC hfit hn hxc)
  have n1 : ¬ xs.length = 0 := by omega
  have n2 : ((xs.length : Int) == 0) = false := by rw [beq_eq_false_iff_ne]; omega
  obtain ⟨n, hnn⟩ : ∃ n, n = xs.length := ⟨_, rfl⟩
  rw [← hnn] at HC HL n1 n2 ⊢
  clear h ha hm hn hp hie hR r0 r1 r3 r4 hcb hsv hC hxc hfit hd0 hnn
  go_enter Try.func20, Try.ntmps20
  go_wp2_with fail
  refine HC.out.mono ?_
  rintro x w1 ⟨rfl, rfl⟩
  go_wp2_with fail
  refine HL.out.mono ?_
  rintro x w1 ⟨rfl, hD⟩
  have HD := Lib.hid hD
  clear hD HL HC
  go_wp2
  go_ret
  exact ⟨rfl, HD.out⟩
theorem Write_ (h : MIx w F g es nx) (a : Int) (ha : 0 ≤ a ∧ a < 18446744073709551616) (ao : Option Addr) (xs : List Int) (c : Nat) (hC : Kd.C (Kd.int .u8) w ao xs.length xs) (hxc : xs.length ≤ c) (hbs : Bs xs) :
    Calls Try.prog 20 #[.pointer (some ⟨g, 0, none⟩), .int .u64 a, .slice ao xs.length c] w fun x w' => x = .returned (.int .i64 (writeS es a xs).1) ∧ MIx w' F g (writeS es a xs).2 nx ∧ Step w w' F F := by
  unfold writeS
  by_cases h0 : xs.length = 0
  · rw [if_pos h0, h0]
    exact (Write_zero g a ao c w).mono fun x w' ⟨e1, e2⟩ => ⟨e1, e2 ▸ h, e2 ▸ Step.refl _ _⟩
  rw [if_neg h0]
  have hn : 0 < xs.length := by omega
  cases hm : atR es a xs.length with
  | none => exact (Write_miss h a ha ao xs.length c hn hm).mono fun x w' ⟨e1, e2⟩ => ⟨e1, e2 ▸ h, e2 ▸ Step.refl _ _⟩
  | some ed =>
    obtain ⟨e, d⟩ := ed
    simp only
    by_cases hp : e.r.perm / 2 % 2 = 0
    · rw [if_pos hp]
      exact (Write_perm h a ha ao xs.length c hn e d hm hp).mono fun x w' ⟨e1, e2⟩ => ⟨e1, e2 ▸ h, e2 ▸ Step.refl _ _⟩
    rw [if_neg hp]
    obtain ⟨ad, rfl, -⟩ := hC.2.2 hn
    have hf := at_len hm (by omega)
    rw [Int.toNat_natCast] at hf
    exact (Write_ok h a ha ad xs c hC hxc hbs hn e d hm hp).mono fun x w' ⟨e1, e2⟩ => ⟨e1, MIx.lay h (atR_idx hm) hf.1 hbs e2⟩
def storeS (es : List Ent) (a s v : Int) : Int × List Ent := if ¬ okSize s then (2, es) else writeS es a (putB v s.toNat)
theorem Store_arg (g : Nat) (a s v : Int) (w : World) (h1 : s ≠ 1) (h2 : s ≠ 2) (h4 : s ≠ 4) (h8 : s ≠ 8) :
    Calls Try.prog 15 #[.pointer (some ⟨g, 0, none⟩), .int .u64 a, .int .i64 s, .int .u64 v] w fun e w' => e = .returned (.int .i64 2) ∧ w = w' := by
  have b1 : (s != 1) = true := by simpa using h1
  have b2 : (s != 2) = true := by simpa using h2
  have b4 : (s != 4) = true := by simpa using h4
  have b8 : (s != 8) = true := by simpa using h8
  clear h1 h2 h4 h8
  go_enter Try.func15, Try.ntmps15
  go_wp2
  go_ret
  exact ⟨rfl, rfl⟩
theorem Put_call (v : Int) (hv : 0 ≤ v ∧ v < 18446744073709551616) (n : Nat) (h8 : n ≤ 8) (w : World) :
    Calls Try.prog 44 #[.slice none 0 0, .int .u64 v, .int .i64 (n : Int)] w fun e w' => ∃ A c, e = .returned (.slice A n c) ∧ n ≤ c ∧ Kd.C (Kd.int .u8) w' A (putB v n).length (putB v n) ∧ Below w.heap.size w w' := by
  refine (le_Put.calls 9 (fun _ => False) (.slice none 0 0) [] v n (putB v n) w w (Below.refl _ _) (Kd.R_nil _ _ _ _ _) (Put_ v hv n h8)).mono ?_
  rintro e w' ⟨v0, rfl, hR, hB, -⟩
  obtain ⟨A, c, rfl⟩ := Kd.R_slice hR
  obtain ⟨h1, h2, h3⟩ := Kd.R_reads' hR
  rw [putB_length] at h2
  exact ⟨A, c, by rw [putB_length], h2, h3, hB⟩
theorem Store_ok (g : Nat) (a v : Int) (n : Nat) (w : World) (hs : okSize n) (hv : 0 ≤ v ∧ v < 18446744073709551616) {er : Int} {T : World → Prop}
    (hW : ∀ w1 A c, Below w.heap.size w w1 → Kd.C (Kd.int .u8) w1 A (putB v n).length (putB v n) → n ≤ c → Calls Try.prog 20 #[.pointer (some ⟨g, 0, none⟩), .int .u64 a, .slice A n c] w1 fun x w' => x = .returned (.int .i64 er) ∧ T w') :
    Calls Try.prog 15 #[.pointer (some ⟨g, 0, none⟩), .int .u64 a, .int .i64 (n : Int), .int .u64 v] w fun x w' => x = .returned (.int .i64 er) ∧ T w' := by
  have HW := Lib.hid hW
  have h8 : n ≤ 8 := by unfold okSize at hs; omega
  have HP : Hid (∀ q, Calls Try.prog 44 #[.slice none 0 0, .int .u64 v, .int .i64 (n : Int)] (w.drewN q) fun e w' => ∃ A c, e = .returned (.slice A n c) ∧ n ≤ c ∧ Kd.C (Kd.int .u8) w' A (putB v n).length (putB v n) ∧ Below w.heap.size w w') := Lib.hid (fun q => (Put_call v hv n h8 (w.drewN q)).mono fun x w' ⟨A, c, h1, h2, h3, h4⟩ => ⟨A, c, h1, h2, h3, ⟨h4.os, h4.tape, h4.output, h4.size, h4.block⟩⟩)
  have hs' : n = 1 ∨ n = 2 ∨ n = 4 ∨ n = 8 := by unfold okSize at hs; omega
  clear hW hv h8 hs
  rcases hs' with rfl | rfl | rfl | rfl
  all_goals
    go_enter Try.func15, Try.ntmps15
    go_wp2_with fail
    refine (HP.out 0).mono ?_
    rintro e w1 ⟨A, c, rfl, h1, h2, h3⟩
    have HX := Lib.hid (HW.out w1 A c h3 h2 h1)
    clear h1 h2 h3 HP HW
    go_wp2_with fail
    refine HX.out.mono ?_
    rintro e w2 ⟨rfl, hT⟩
    have HT := Lib.hid hT
    clear hT HX
    go_wp2
    go_ret
    exact ⟨rfl, HT.out⟩
theorem Store_ (h : MIx w F g es nx) (a s v : Int) (ha : 0 ≤ a ∧ a < 18446744073709551616) (hv : 0 ≤ v ∧ v < 18446744073709551616) :
    Calls Try.prog 15 #[.pointer (some ⟨g, 0, none⟩), .int .u64 a, .int .i64 s, .int .u64 v] w fun x w' => x = .returned (.int .i64 (storeS es a s v).1) ∧ MIx w' F g (storeS es a s v).2 nx ∧ Step w w' F F := by
  unfold storeS
  by_cases hs : okSize s
  · rw [if_neg (by simpa using hs)]
    obtain ⟨n, rfl⟩ := Int.eq_ofNat_of_zero_le (show 0 ≤ s by unfold okSize at hs; omega)
    rw [Int.toNat_natCast]
    refine Store_ok g a v n w hs hv (T := fun w' => MIx w' F g (writeS es a (putB v n)).2 nx ∧ Step w w' F F) fun w1 A c hB hC hc => ?_
    have := Write_ (h.below hB) a ha A (putB v n) c hC (by rw [putB_length]; exact hc) (putB_byte v n)
    rw [putB_length] at this
    exact this.mono fun x w' ⟨e1, e2, e3⟩ => ⟨e1, e2, (Step.of_below hB F).trans e3⟩
  · rw [if_pos hs]
    unfold okSize at hs
    exact (Store_arg g a s v w (by omega) (by omega) (by omega) (by omega)).mono fun x w' ⟨e1, e2⟩ => ⟨e1, e2 ▸ h, e2 ▸ Step.refl _ _⟩
end
end Go.Proofs.Ytpjgaacdohiomaa.MemE
