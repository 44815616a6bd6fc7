/- mem.Memory: Read of a region with marks, walked by hand; what Read answers in all. -/
import Derived.Test.YtpjgaacdohiomaaMem8
namespace Go.Proofs.Ytpjgaacdohiomaa.Mem9
open Go.RowKit Go.Proofs.Ytpjgaacdohiomaa.PMemCopies Go.Proofs.YtpjgaacdohiomaaW.PrintWords Go.Proofs.YtpjgaacdohiomaaW.PrintLast Go.Proofs.YtpjgaacdohiomaaW.PrintMore Go.Proofs.Ytpjgaacdohiomaa.Mw Go.Proofs.Ytpjgaacdohiomaa.Mem1 Go.Proofs.Ytpjgaacdohiomaa.Mem2 Go.Proofs.Ytpjgaacdohiomaa.Mem3 Go.Proofs.Ytpjgaacdohiomaa.Mem4 Go.Proofs.Ytpjgaacdohiomaa.Mem6 Go.Proofs.Ytpjgaacdohiomaa.MemA Go.Proofs.Ytpjgaacdohiomaa.MemB Go.Proofs.Ytpjgaacdohiomaa.Mem8
set_option linter.unusedVariables false
set_option linter.unusedSimpArgs false
def allSet (s : List Bool) (d m : Nat) : Bool := ((s.drop d).take m).all id
section
variable {w : World} {F : Nat → Prop} {g : Nat} {es : List Ent} {nx : Int}
theorem all_of {s : List Bool} {dn m : Nat} (h : ∀ t, t < m → s[dn + t]? = some true) : allSet s dn m = true := by
  unfold allSet
  rw [List.all_eq_true]
  intro x hx
  obtain ⟨t, ht⟩ := List.mem_iff_getElem?.1 hx
  have htm : t < m := by have := (List.getElem?_eq_some_iff.1 ht).1; rw [List.length_take] at this; omega
  rw [List.getElem?_take_of_lt htm, List.getElem?_drop, h t htm] at ht
  cases ht
  rfl
theorem not_all_of {s : List Bool} {dn m t : Nat} (htm : t < m) (h : s[dn + t]? = some false) : allSet s dn m = false := by
  unfold allSet
  rw [List.all_eq_false]
  exact ⟨false, List.mem_iff_getElem?.2 ⟨t, by rw [List.getElem?_take_of_lt htm, List.getElem?_drop, h]⟩, by simp⟩
theorem Read_set (h : MIx w F g es nx) (a n : Int) (ha : 0 ≤ a ∧ a < 18446744073709551616) (hn : 1 ≤ n) (e : Ent) (d : Int) (hm : atR es a n = some (e, d)) (hp : e.r.perm % 2 = 1) (s : List Bool) (hset : e.r.set = some s) :
    Calls Try.prog 17 #[.pointer (some ⟨g, 0, none⟩), .int .u64 a, .int .i64 n] w fun x w' =>
      (allSet s d.toNat n.toNat = true → ∃ b c, x = .returned (.tuple #[.slice (some ⟨b, 0, none⟩) n.toNat c, .int .i64 0]) ∧ n.toNat ≤ c ∧ w.heap.size ≤ b ∧ Row w' b 5 (((e.r.bytes.drop d.toNat).take n.toNat).map (Value.int .u8)) ∧ Below w.heap.size w w') ∧
      (allSet s d.toNat n.toNat = false → x = .returned (.tuple #[.slice none 0 0, .int .i64 11]) ∧ w = w') := by
  have HC := Lib.hid (at_ h a n ha hn)
  rw [hm] at HC
  simp only [atV] at HC
  obtain ⟨⟨i, hie⟩, hin, hd, hnd⟩ := atR_mem hm
  have hR := h.regs i e hie
  obtain ⟨cb, sv, r0, r1, r2, r3, r4, hcb, hsv⟩ := hR.cells
  have hb : Go.bits .and .i64 e.r.perm 1 = 1 := by rw [perm_one _ hR.ok.perm, hp]
  have hlen := hR.ok.len
  have hrow := hR.row
  unfold inR at hin
  simp only [Bool.and_eq_true, decide_eq_true_eq] at hin
  obtain ⟨m, rfl⟩ := Int.eq_ofNat_of_zero_le (show 0 ≤ n by omega)
  obtain ⟨dn, hdn⟩ := Int.eq_ofNat_of_zero_le (show 0 ≤ d by omega)
  subst hdn
  rw [Int.toNat_natCast, Int.toNat_natCast]
  have n1 : ¬ ((m : Int) < 0) := by omega
  have n2 : ((m : Int) == 0) = false := by simp; omega
  have HCL : Hid (∀ q c, Calls Try.prog 47 #[.slice (some ⟨e.gb, dn, none⟩) m c] (w.drewN q) fun x w' => ∃ b' c', x = .returned (.slice (some ⟨b', 0, none⟩) m c') ∧ m ≤ c' ∧ w.heap.size ≤ b' ∧ Row w' b' 5 (((e.r.bytes.drop dn).take m).map (Value.int .u8)) ∧ Below w.heap.size w w') := Lib.hid (fun q c => by
    have := clone_ (w := w.drewN q) (show Row (w.drewN q) e.gb 5 _ from hrow) dn m c (by omega) (by omega)
    exact this.mono fun x w' ⟨b', c', h1, h2, h3, h4, h5⟩ => ⟨b', c', h1, h2, h3, h4, ⟨h5.os, h5.tape, h5.output, h5.size, h5.block⟩⟩)
  have hsum : wrap64 ((dn : Int) + (m : Int)) = ((dn + m : Nat) : Int) := by unfold wrap64; omega
  have hcb1 : (dn : Int) ≤ ((dn + m : Nat) : Int) := by omega
  have hcb2 : ((dn + m : Nat) : Int) ≤ (cb : Int) := by omega
  have hdl : dn + m ≤ e.r.bytes.length := by omega
  have hdc1 : ¬ cb = dn := by omega
  have hdc2 : ¬ dn = cb := by omega
  rw [hset] at hsv
  obtain ⟨hsl, hsF, ⟨cs, rfl, hcs⟩, hsr⟩ := hsv
  have hq := fun W => run_neq_slice_nil_any (P := Try.prog) W 37 4 (some ⟨e.gs, 0, none⟩) e.r.bytes.length cs 0 0 Try.underlying37
  have HSR := Lib.hid hsr
  clear h ha hm hn hp hie hR r0 r1 hcb hset hrow hd hnd hin hsF hsr
  go_enter Try.func17, Try.ntmps17
  go_wp2_with fail
  refine HC.out.mono ?_
  rintro x w1 ⟨rfl, rfl⟩
  go_wp2
  go_loop [10] (fun i => ∃ j : Nat, j ≤ m ∧ i = .int .i64 ((dn : Int) + j) ∧ Hid (∀ t, t < j → s[dn + t]? = some true)) (fun i => (dn + m) - (intOf i).toNat)
  case atStart => exact ⟨0, Nat.zero_le _, by simp, Lib.hid (fun t ht => by omega)⟩
  case round =>
    obtain ⟨j, hj, rfl, HJ⟩ := hrel
    by_cases hlt : j < m
    · have hcell := HSR.out.cell (dn + j) (by rw [List.length_map]; omega)
      rw [List.getElem_map] at hcell
      have hw2 : wrap64 ((dn : Int) + j + 1) = (dn : Int) + j + 1 := by unfold wrap64; omega
      have hget : s[dn + j]? = some (s[dn + j]'(by omega)) := List.getElem?_eq_getElem (by omega)
      cases hv : s[dn + j]'(by omega) with
      | true =>
        rw [hv] at hcell hget
        have HJ2 : Hid (∀ t, t < j + 1 → s[dn + t]? = some true) := Lib.hid (fun t ht => by
          by_cases e : t = j
          · subst e; exact hget
          · exact HJ.out t (by omega))
        clear hget hv
        go_wp2
        go_round
        case rel => exact ⟨j + 1, by omega, by go_num, HJ2⟩
        case measure => simp [intOf]; omega
      | false =>
        rw [hv] at hcell hget
        have HF := Lib.hid (not_all_of hlt hget)
        clear hget hv
        go_wp2
        go_ret2
        exact ⟨fun h => absurd (HF.out.symm.trans h) (by simp), fun _ => ⟨rfl, rfl⟩⟩
    · obtain rfl : j = m := by omega
      have HT := Lib.hid (all_of HJ.out)
      go_wp2_with fail
      refine (HCL.out 0 _).mono ?_
      rintro x w2 ⟨b, c, rfl, h1, h2, h3, h4⟩
      have H1 := Lib.hid (And.intro h1 (And.intro h2 (And.intro h3 h4)))
      clear h1 h2 h3 h4 HCL HC
      go_wp2
      go_ret2
      exact ⟨fun _ => ⟨b, c, rfl, H1.out⟩, fun h => absurd (HT.out.symm.trans h) (by simp)⟩
end
end Go.Proofs.Ytpjgaacdohiomaa.Mem9
