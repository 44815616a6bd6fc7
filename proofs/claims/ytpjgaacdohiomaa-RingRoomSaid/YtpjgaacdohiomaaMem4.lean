/- mem.Memory: Read, walked by hand. -/
import Derived.Test.YtpjgaacdohiomaaMem3
namespace Go.Proofs.Ytpjgaacdohiomaa.Mem4
open Go.RowKit Go.Proofs.Ytpjgaacdohiomaa.PMemCopies Go.Proofs.YtpjgaacdohiomaaW.PrintWords Go.Proofs.YtpjgaacdohiomaaW.PrintLast Go.Proofs.YtpjgaacdohiomaaW.PrintMore Go.Proofs.Ytpjgaacdohiomaa.Mw Go.Proofs.Ytpjgaacdohiomaa.Mem1 Go.Proofs.Ytpjgaacdohiomaa.Mem2 Go.Proofs.Ytpjgaacdohiomaa.Mem3
set_option linter.unusedVariables false
set_option linter.unusedSimpArgs false
theorem perm_one (p : Int) (h : 0 ≤ p ∧ p ≤ 7) : Go.bits .and .i64 p 1 = p % 2 := by
  obtain ⟨n, rfl⟩ := Int.eq_ofNat_of_zero_le h.1
  exact (by decide +kernel : ∀ v : Fin 8, Go.bits .and .i64 (v.val : Int) 1 = (v.val : Int) % 2) ⟨n, by omega⟩
/-- '!= nil' -/
theorem run_neq_slice_nil_any {P : Program} (w : World) (t e : TypeId) (a : Option Addr) (n c n' c' : Nat) (h : P.underlying t = some (.slice e)) :
    (binOp .neq t (.slice a n c) (.slice none n' c')).run P w = .ok (.bool (!a.isNone)) w := by
  simp only [binOp]
  simp [Op.equal, Op.maxDepth, Lib.run_equalIn_slice_nil w 9999 t e a n c n' c' h]
section
variable {w : World} {F : Nat → Prop} {g : Nat} {es : List Ent} {nx : Int}
theorem Read_neg (g : Nat) (a n : Int) (w : World) (hn : n < 0) :
    Calls Try.prog 17 #[.pointer (some ⟨g, 0, none⟩), .int .u64 a, .int .i64 n] w fun e w' => e = .returned (.tuple #[.slice none 0 0, .int .i64 2]) ∧ w = w' := by
  go_enter Try.func17, Try.ntmps17
  go_wp2
  go_ret2
  exact ⟨rfl, rfl⟩
theorem Read_zero (g : Nat) (a : Int) (w : World) :
    Calls Try.prog 17 #[.pointer (some ⟨g, 0, none⟩), .int .u64 a, .int .i64 0] w fun e w' => e = .returned (.tuple #[.slice none 0 0, .int .i64 0]) ∧ w = w' := by
  go_enter Try.func17, Try.ntmps17
  go_wp2
  go_ret2
  exact ⟨rfl, rfl⟩
theorem Read_miss (h : MIx w F g es nx) (a n : Int) (ha : 0 ≤ a ∧ a < 18446744073709551616) (hn : 1 ≤ n) (hm : atR es a n = none) :
    Calls Try.prog 17 #[.pointer (some ⟨g, 0, none⟩), .int .u64 a, .int .i64 n] w fun e w' => e = .returned (.tuple #[.slice none 0 0, .int .i64 10]) ∧ w = w' := by
  have HC := Lib.hid (at_ h a n ha hn)
  rw [hm] at HC
  simp only [atV] at HC
  have n1 : ¬ (n < 0) := by omega
  have n2 : (n == 0) = false := by simp; omega
  clear h ha hm hn
  go_enter Try.func17, Try.ntmps17
  go_wp2_with fail
  refine HC.out.mono ?_
  rintro e w1 ⟨rfl, rfl⟩
  go_wp2
  go_ret2
  exact ⟨rfl, rfl⟩
theorem Read_perm (h : MIx w F g es nx) (a n : Int) (ha : 0 ≤ a ∧ a < 18446744073709551616) (hn : 1 ≤ n) (e : Ent) (d : Int) (hm : atR es a n = some (e, d)) (hp : e.r.perm % 2 = 0) :
    Calls Try.prog 17 #[.pointer (some ⟨g, 0, none⟩), .int .u64 a, .int .i64 n] w fun e w' => e = .returned (.tuple #[.slice none 0 0, .int .i64 10]) ∧ w = w' := by
  have HC := Lib.hid (at_ h a n ha hn)
  rw [hm] at HC
  simp only [atV] at HC
  obtain ⟨⟨i, hie⟩, -⟩ := atR_mem hm
  have hR := h.regs i e hie
  obtain ⟨cb, sv, r0, r1, r2, r3, r4, hcb, hsv⟩ := hR.cells
  have hb : Go.bits .and .i64 e.r.perm 1 = 0 := by rw [perm_one _ hR.ok.perm, hp]
  have n1 : ¬ (n < 0) := by omega
  have n2 : (n == 0) = false := by simp; omega
  clear h ha hm hn hp hie hR r0 r1 r3 r4 hcb hsv
  go_enter Try.func17, Try.ntmps17
  go_wp2_with fail
  refine HC.out.mono ?_
  rintro e w1 ⟨rfl, rfl⟩
  go_wp2
  go_ret2
  exact ⟨rfl, rfl⟩
/-- Of a region all of whose bytes are set. -/
theorem Read_all (h : MIx w F g es nx) (a n : Int) (ha : 0 ≤ a ∧ a < 18446744073709551616) (hn : 1 ≤ n) (e : Ent) (d : Int) (hm : atR es a n = some (e, d)) (hp : e.r.perm % 2 = 1) (hset : e.r.set = none) :
    Calls Try.prog 17 #[.pointer (some ⟨g, 0, none⟩), .int .u64 a, .int .i64 n] w fun x w' => ∃ b c, x = .returned (.tuple #[.slice (some ⟨b, 0, none⟩) n.toNat c, .int .i64 0]) ∧ n.toNat ≤ c ∧ w.heap.size ≤ b ∧ Row w' b 5 (((e.r.bytes.drop d.toNat).take n.toNat).map (Value.int .u8)) ∧ Below w.heap.size w w' := by
  have HC := Lib.hid (at_ h a n ha hn)
  rw [hm] at HC
  simp only [atV] at HC
  obtain ⟨⟨i, hie⟩, hin, hd, hnd⟩ := atR_mem hm
  have hR := h.regs i e hie
  obtain ⟨cb, sv, r0, r1, r2, r3, r4, hcb, hsv⟩ := hR.cells
  rw [hset] at hsv
  obtain rfl : sv = .slice none 0 0 := hsv
  have hb : Go.bits .and .i64 e.r.perm 1 = 1 := by rw [perm_one _ hR.ok.perm, hp]
  have hlen := hR.ok.len
  have hrow := hR.row
  unfold inR at hin
  simp only [Bool.and_eq_true, decide_eq_true_eq] at hin
  obtain ⟨m, rfl⟩ := Int.eq_ofNat_of_zero_le (show 0 ≤ n by omega)
  obtain ⟨dn, hdn⟩ := Int.eq_ofNat_of_zero_le (show 0 ≤ d by omega)
  subst hdn
  rw [Int.toNat_natCast, Int.toNat_natCast]
  have n1 : ¬ ((m : Int) < 0) := by omega
  have n2 : ((m : Int) == 0) = false := by simp; omega
  have hq := fun W => run_neq_slice_nil_any (P := Try.prog) W 37 4 none 0 0 0 0 Try.underlying37
  have HCL : Hid (∀ q c, Calls Try.prog 47 #[.slice (some ⟨e.gb, dn, none⟩) m c] (w.drewN q) fun x w' => ∃ b' c', x = .returned (.slice (some ⟨b', 0, none⟩) m c') ∧ m ≤ c' ∧ w.heap.size ≤ b' ∧ Row w' b' 5 (((e.r.bytes.drop dn).take m).map (Value.int .u8)) ∧ Below w.heap.size w w') := Lib.hid (fun q c => by
    have := clone_ (w := w.drewN q) (show Row (w.drewN q) e.gb 5 _ from hrow) dn m c (by omega) (by omega)
    exact this.mono fun x w' ⟨b', c', h1, h2, h3, h4, h5⟩ => ⟨b', c', h1, h2, h3, h4, ⟨h5.os, h5.tape, h5.output, h5.size, h5.block⟩⟩)
  have hsum : wrap64 ((dn : Int) + (m : Int)) = ((dn + m : Nat) : Int) := by unfold wrap64; omega
  have hcb1 : (dn : Int) ≤ ((dn + m : Nat) : Int) := by omega
  have hcb2 : ((dn + m : Nat) : Int) ≤ (cb : Int) := by omega
  have hdl : dn + m ≤ e.r.bytes.length := by omega
  have hdc1 : ¬ cb = dn := by omega
  have hdc2 : ¬ dn = cb := by omega
  clear h ha hm hn hp hie hR r0 r1 hcb hset hrow hd hnd hin
  go_enter Try.func17, Try.ntmps17
  go_wp2_with fail
  refine HC.out.mono ?_
  rintro x w1 ⟨rfl, rfl⟩
  go_wp2
  go_loop [10] (fun i => i = .int .i64 (dn : Int)) (fun _ => 0)
  case atStart => rfl
  case round =>
    obtain rfl := hrel
    go_wp2_with fail
    refine (HCL.out 0 _).mono ?_
    rintro x w2 ⟨b, c, rfl, h1, h2, h3, h4⟩
    have H1 := Lib.hid (And.intro h1 (And.intro h2 (And.intro h3 h4)))
    clear h1 h2 h3 h4 HCL HC
    go_wp2
    go_ret2
    exact ⟨b, c, rfl, H1.out⟩
end
end Go.Proofs.Ytpjgaacdohiomaa.Mem4
