/- mem.Memory: Add, walked by hand. -/
import Derived.Test.YtpjgaacdohiomaaMemB
namespace Go.Proofs.Ytpjgaacdohiomaa.Mem7
open Go.RowKit Go.Proofs.Ytpjgaacdohiomaa.PMemCopies Go.Proofs.YtpjgaacdohiomaaW.PrintWords Go.Proofs.YtpjgaacdohiomaaW.PrintLast Go.Proofs.YtpjgaacdohiomaaW.PrintMore Go.Proofs.Ytpjgaacdohiomaa.Mw Go.Proofs.Ytpjgaacdohiomaa.Mem1 Go.Proofs.Ytpjgaacdohiomaa.Mem2 Go.Proofs.Ytpjgaacdohiomaa.Mem3 Go.Proofs.Ytpjgaacdohiomaa.Mem4 Go.Proofs.Ytpjgaacdohiomaa.Mem6 Go.Proofs.Ytpjgaacdohiomaa.MemA Go.Proofs.Ytpjgaacdohiomaa.MemB
set_option linter.unusedVariables false
set_option linter.unusedSimpArgs false
structure Stand (p : Prop) : Prop where
  out : p
theorem not_u64 (b : Int) (h : 0 ≤ b ∧ b < 18446744073709551616) : Go.bits .xor .u64 (if IntKind.u64.signed = true then -1 else IntKind.u64.max) b = 18446744073709551615 - b := by
  obtain ⟨n, rfl⟩ := Int.eq_ofNat_of_zero_le h.1
  have e : (n : Int) = ((BitVec.ofNat 64 n).toNat : Int) := by rw [BitVec.toNat_ofNat, Nat.mod_eq_of_lt (by omega)]
  have h1 : BitVec.ofInt 64 (if IntKind.u64.signed = true then -1 else IntKind.u64.max) = BitVec.allOnes 64 := by decide
  show IntKind.u64.wrap ((BitVec.ofInt 64 _ ^^^ BitVec.ofInt 64 (n : Int)).toNat : Int) = _
  rw [h1, BitVec.allOnes_xor, BitVec.toNat_not, BitVec.ofInt_natCast, BitVec.toNat_ofNat, Nat.mod_eq_of_lt (by omega), IntKind.wrap_u64]
  omega
theorem perm_four (p : Int) (h : 0 ≤ p ∧ p ≤ 7) (h4 : p < 4) : Go.bits .and .i64 p 4 = 0 := by
  obtain ⟨n, rfl⟩ := Int.eq_ofNat_of_zero_le h.1
  exact (by decide +kernel : ∀ v : Fin 4, Go.bits .and .i64 (v.val : Int) 4 = 0) ⟨n, by omega⟩
theorem perm_four' (p : Int) (h : 0 ≤ p ∧ p ≤ 7) (h4 : ¬ p < 4) : Go.bits .and .i64 p 4 = 4 := by
  obtain ⟨n, rfl⟩ := Int.eq_ofNat_of_zero_le h.1
  have h1 := (by decide +kernel : ∀ v : Fin 4, Go.bits .and .i64 ((v.val + 4 : Nat) : Int) 4 = 4) ⟨n - 4, by omega⟩
  rwa [show n - 4 + 4 = n by omega] at h1
theorem any_drop (p : Ent → Bool) (es : List Ent) (k : Nat) (e : Ent) (h : es[k]? = some e) : (es.drop k).any p = (p e || (es.drop (k + 1)).any p) := by
  obtain ⟨hk, rfl⟩ := List.getElem?_eq_some_iff.1 h
  rw [List.drop_eq_getElem_cons hk, List.any_cons]
theorem Add_arg (g : Nat) (b s p : Int) (w : World) (hb : 0 ≤ b ∧ b < 18446744073709551616) (hs : -9223372036854775808 ≤ s ∧ s < 9223372036854775808) (h : ¬ argOk b s p) :
    Calls Try.prog 14 #[.pointer (some ⟨g, 0, none⟩), .int .u64 b, .int .i64 s, .int .i64 p] w fun e w' => e = .returned (.tuple #[.int .i64 0, .int .i64 2]) ∧ w = w' := by
  have H := Lib.hid h
  clear h
  by_cases c1 : s < 1
  · go_enter Try.func14, Try.ntmps14
    go_wp2
    go_ret2
    exact ⟨rfl, rfl⟩
  by_cases c2 : s > 65536
  · go_enter Try.func14, Try.ntmps14
    go_wp2
    go_ret2
    exact ⟨rfl, rfl⟩
  by_cases c3 : p < 0
  · go_enter Try.func14, Try.ntmps14
    go_wp2
    go_ret2
    exact ⟨rfl, rfl⟩
  by_cases c4 : p > 7
  · go_enter Try.func14, Try.ntmps14
    go_wp2
    go_ret2
    exact ⟨rfl, rfl⟩
  have hw1 : IntKind.i64.wrap (s - 1) = s - 1 := by rw [IntKind.wrap_i64]; omega
  have hw1' : wrap64 (s - 1) = s - 1 := by unfold wrap64; omega
  have hw2 : IntKind.u64.wrap (s - 1) = s - 1 := by rw [IntKind.wrap_u64]; omega
  have hw3 := not_u64 b hb
  have c5 : s - 1 > 18446744073709551615 - b := by have := H.out; unfold argOk at this; omega
  go_enter Try.func14, Try.ntmps14
  go_wp2
  go_ret2
  exact ⟨rfl, rfl⟩
section
variable {w : World} {F : Nat → Prop} {g : Nat} {es : List Ent} {nx : Int}
set_option maxRecDepth 100000 in
set_option maxHeartbeats 4000000 in
theorem Add_go (h : MIx w F g es nx) (hx : nx < 1000000) (b s p : Int) (hb : 0 ≤ b ∧ b < 18446744073709551616) (ha : argOk b s p) :
    Calls Try.prog 14 #[.pointer (some ⟨g, 0, none⟩), .int .u64 b, .int .i64 s, .int .i64 p] w fun e w' =>
      (es.any (busyE b (b + (s - 1))) = true → e = .returned (.tuple #[.int .i64 0, .int .i64 12]) ∧ ∃ q, w' = w.drewN q) ∧
      (es.any (busyE b (b + (s - 1))) = false → es.length = 4096 → e = .returned (.tuple #[.int .i64 0, .int .i64 13]) ∧ ∃ q, w' = w.drewN q) ∧
      (es.any (busyE b (b + (s - 1))) = false → es.length < 4096 → e = .returned (.tuple #[.int .i64 nx, .int .i64 0]) ∧ ∃ F' en, en.r = newR nx b p s.toNat ∧ MIx w' F' g (es ++ [en]) (nx + 1) ∧ Step w w' F F') := by
  obtain ⟨ao, bl, cap, g0, g1, gf, hc, hL⟩ := h.cells
  have hlen := h.len
  have hx0 := h.nx0
  have HL := Lib.hid hL
  have H := Lib.hid h
  obtain ⟨sn, rfl⟩ := Int.eq_ofNat_of_zero_le (show 0 ≤ s by have := ha.1; omega)
  have hsn : sn ≤ 65536 := by have := ha.2.1; omega
  have hm1 : ∀ W, (Instr.makeSlice 36 (.int .i64 sn) (.int .i64 sn)).run Try.prog W = .ok (.slice (some ⟨W.heap.size, 0, none⟩) sn sn) (W.alloc (.cells (madeCells #[.int .u8 0] sn) 5)) := by
    obtain ⟨i1, hi1, hz1, hs1, hb1⟩ := info_parts info5
    intro W
    have := run_makeSlice (P := Try.prog) W 36 5 i1 (.int .u8 0) Try.underlying36 hi1 hz1 .i64 .i64 sn sn (by omega) (by omega) (by rw [hs1]; omega) (by rw [hb1]; omega) (by omega)
    rw [hs1, Int.toNat_natCast, Nat.mul_one] at this
    exact this
  have hm2 : ∀ W, (Instr.makeSlice 37 (.int .i64 sn) (.int .i64 sn)).run Try.prog W = .ok (.slice (some ⟨W.heap.size, 0, none⟩) sn sn) (W.alloc (.cells (madeCells #[.bool false] sn) 4)) := by
    obtain ⟨i1, hi1, hz1, hs1, hb1⟩ := info_parts (P := Try.prog) (e := 4) (z := .bool false) (size := 1) (bytes := 1) (by kernel_rfl)
    intro W
    have := run_makeSlice (P := Try.prog) W 37 4 i1 (.bool false) Try.underlying37 hi1 hz1 .i64 .i64 sn sn (by omega) (by omega) (by rw [hs1]; omega) (by rw [hb1]; omega) (by omega)
    rw [hs1, Int.toNat_natCast, Nat.mul_one] at this
    exact this
  obtain ⟨s, hs⟩ : ∃ s : Int, s = (sn : Int) := ⟨_, rfl⟩
  rw [← hs] at hm1 hm2 ha ⊢
  have c1 : ¬ s < 1 := by have := ha.1; omega
  have c2 : ¬ s > 65536 := by have := ha.2.1; omega
  have c3 : ¬ p < 0 := by have := ha.2.2.1; omega
  have c4 : ¬ p > 7 := by have := ha.2.2.2.1; omega
  have hbs := ha.2.2.2.2
  have hw1 : IntKind.i64.wrap (s - 1) = s - 1 := by rw [IntKind.wrap_i64]; omega
  have hw1' : wrap64 (s - 1) = s - 1 := by unfold wrap64; omega
  have hw2 : IntKind.u64.wrap (s - 1) = s - 1 := by rw [IntKind.wrap_u64]; omega
  have hw3 := not_u64 b hb
  have c5 : ¬ s - 1 > 18446744073709551615 - b := by omega
  obtain ⟨l, hl⟩ : ∃ l, l = b + (s - 1) := ⟨_, rfl⟩
  have hw4 : IntKind.u64.wrap (b + (s - 1)) = l := by rw [IntKind.wrap_u64]; omega
  rw [← hl]
  have HA := Lib.hid ha
  have HB := Lib.hid hb
  have HLL := Lib.hid hl
  obtain ⟨nn, hnn⟩ : ∃ nn, nn = es.length := ⟨_, rfl⟩
  have HN := Lib.hid hnn
  rw [← hnn] at g0 hc hlen
  have HSN := Lib.hid hs
  have HG : Hid (w.heap[g]? = some (.cells #[.slice ao nn cap, .int .i64 nx] 91 (0, 0))) := Lib.hid (by
    obtain ⟨_, _, _, hs, -⟩ := h.self
    have e0 := blk_cell hs 0
    rw [g0] at e0
    have e0 := Option.some.inj e0
    rw [e0]; exact hs)
  clear h hL ha hb hnn hbs hl hs hsn
  go_enter Try.func14, Try.ntmps14
  go_wp2
  go_loopw [48] (fun i wr => ∃ k q : Nat, k ≤ nn ∧ i = .int .i64 (k : Int) ∧ wr = w.drewN q ∧ Hid (es.any (busyE b l) = (es.drop k).any (busyE b l))) (fun i _ => nn - (intOf i).toNat)
  case atStart => exact ⟨0, 0, Nat.zero_le _, rfl, rfl, Lib.hid rfl⟩
  case round =>
    obtain ⟨k, q, hk, rfl, rfl, HS⟩ := hrel
    by_cases hlt : k < nn
    · obtain ⟨e, hi⟩ : ∃ e, es[k]? = some e := ⟨_, List.getElem?_eq_getElem (by rw [← HN.out]; exact hlt)⟩
      obtain ⟨rfl, ge⟩ := HL.out.at_ hi
      have hR := H.out.regs k e hi
      obtain ⟨cb, sv, r0, r1, r2, r3, r4, hcb, hsv⟩ := hR.cells
      have hb1 := hR.ok.len
      have hb2 := hR.ok.base
      have hfd := any_drop (busyE b l) es k e hi
      have hw5 : wrap64 ((e.r.bytes.length : Int) - 1) = (e.r.bytes.length : Int) - 1 := by unfold wrap64; omega
      have hw6 : IntKind.u64.wrap ((e.r.bytes.length : Int) - 1) = (e.r.bytes.length : Int) - 1 := by rw [IntKind.wrap_u64]; omega
      have hw7 : IntKind.u64.wrap (e.r.base + ((e.r.bytes.length : Int) - 1)) = e.r.base + ((e.r.bytes.length : Int) - 1) := by rw [IntKind.wrap_u64]; omega
      clear r0 r2 r4 hsv hR
      by_cases d1 : e.r.base ≤ l
      · by_cases d2 : b ≤ e.r.base + ((e.r.bytes.length : Int) - 1)
        · have HT : Hid (es.any (busyE b l) = true) := Lib.hid (by rw [HS.out, hfd]; unfold busyE; rw [decide_eq_true d1, decide_eq_true d2]; rfl)
          clear hfd HS
          go_wp2
          go_quiet (fail)
          go_wp2
          go_ret2
          exact ⟨fun _ => ⟨rfl, _, drew2 _ _ _⟩, fun h => absurd (HT.out.symm.trans h) (by simp), fun h => absurd (HT.out.symm.trans h) (by simp)⟩
        · have HS2 : Hid (es.any (busyE b l) = (es.drop (k + 1)).any (busyE b l)) := Lib.hid (by rw [HS.out, hfd]; unfold busyE; rw [decide_eq_false d2, Bool.and_false, Bool.false_or])
          clear hfd HS
          go_wp2
          go_quiet (fail)
          go_wp2
          go_round
          case rel => exact ⟨k + 1, _, by omega, by go_num, rfl, HS2⟩
          case measure => simp [intOf]; omega
      · have HS2 : Hid (es.any (busyE b l) = (es.drop (k + 1)).any (busyE b l)) := Lib.hid (by rw [HS.out, hfd]; unfold busyE; rw [decide_eq_false d1, Bool.false_and, Bool.false_or])
        clear hfd HS
        have d1' : l < e.r.base := by omega
        have d1'' : decide (e.r.base ≤ l) = false := decide_eq_false d1
        go_wp2
        go_quiet (fail)
        go_wp2
        go_round
        case rel => exact ⟨k + 1, _, by omega, by go_num, rfl, HS2⟩
        case measure => simp [intOf]; omega
    · have HT : Hid (es.any (busyE b l) = false) := Lib.hid (by rw [HS.out, List.drop_eq_nil_of_le (by rw [← HN.out]; omega)]; rfl)
      by_cases d1 : nn = 4096
      · have b1 : ((nn : Int) == 4096) = true := by simp; omega
        go_wp2
        go_ret2
        exact ⟨fun h => absurd (HT.out.symm.trans h) (by simp), fun _ _ => ⟨rfl, _, rfl⟩, fun _ h => absurd (HN.out.trans (by exact rfl)) (by have := HN.out; omega)⟩
      · have b1 : ((nn : Int) == 4096) = false := by simp; omega
        have ga1 : ∀ q o, ((w.drewN q).alloc o).cell? ⟨g, 1, none⟩ = some (.int .i64 nx) := fun q o => old (below_alloc (pw_below_drewN (Below.refl w.heap.size w) q) o) g1
        have ga2 : ∀ q o o', (((w.drewN q).alloc o).alloc o').cell? ⟨g, 1, none⟩ = some (.int .i64 nx) := fun q o o' => old (below_alloc (below_alloc (pw_below_drewN (Below.refl w.heap.size w) q) o) o') g1
        have ga3 : ∀ q o o' o'', ((((w.drewN q).alloc o).alloc o').alloc o'').cell? ⟨g, 1, none⟩ = some (.int .i64 nx) := fun q o o' o'' => old (below_alloc (below_alloc (below_alloc (pw_below_drewN (Below.refl w.heap.size w) q) o) o') o'') g1
        have gb2 : ∀ q o o', (((w.drewN q).alloc o).alloc o').cell? ⟨g, 0, none⟩ = some (.slice ao nn cap) := fun q o o' => old (below_alloc (below_alloc (pw_below_drewN (Below.refl w.heap.size w) q) o) o') g0
        have gb3 : ∀ q o o' o'', ((((w.drewN q).alloc o).alloc o').alloc o'').cell? ⟨g, 0, none⟩ = some (.slice ao nn cap) := fun q o o' o'' => old (below_alloc (below_alloc (below_alloc (pw_below_drewN (Below.refl w.heap.size w) q) o) o') o'') g0
        have gc : ∀ i, (w.frozen? ⟨g, i, none⟩) = false := gf
        have gg : g < w.heap.size := H.out.lt g H.out.inF
        have gc2 : ∀ q o o' i, (((w.drewN q).alloc o).alloc o').frozen? ⟨g, i, none⟩ = false := fun q o o' i => ((below_alloc (below_alloc (pw_below_drewN (Below.refl w.heap.size w) q) o) o').frozen (p := ⟨g, i, none⟩) gg).trans (gf i)
        have gc3 : ∀ q o o' o'' i, ((((w.drewN q).alloc o).alloc o').alloc o'').frozen? ⟨g, i, none⟩ = false := fun q o o' o'' i => ((below_alloc (below_alloc (below_alloc (pw_below_drewN (Below.refl w.heap.size w) q) o) o') o'').frozen (p := ⟨g, i, none⟩) gg).trans (gf i)
        have HBel := Below.refl w.heap.size w
        have gs2 : ∀ q o v o', (((((w.drewN q).alloc o).setCell ⟨g, 1, none⟩ v).alloc o').cell? ⟨g, 0, none⟩ = some (.slice ao nn cap)) := fun q o v o' => by rw [World.cell?_alloc_old _ _ _ (by simp [World.setCell]; omega), World.cell?_setCell_other _ _ _ _ (by simp)]; exact old (below_alloc (pw_below_drewN HBel q) o) g0
        have gs3 : ∀ q o v o' o'', ((((((w.drewN q).alloc o).setCell ⟨g, 1, none⟩ v).alloc o').alloc o'').cell? ⟨g, 0, none⟩ = some (.slice ao nn cap)) := fun q o v o' o'' => by rw [World.cell?_alloc_old _ _ _ (by simp [World.setCell]; omega)]; exact gs2 q o v o'
        have hwn : wrap64 (nx + 1) = nx + 1 := by unfold wrap64; omega
        have hgh : w.heap[g]? = some (.cells #[.slice ao nn cap, .int .i64 nx] 91 (0, 0)) := HG.out
        have HOK : Hid (newR nx b p sn).Ok := Lib.hid (by have := HA.out; have := HSN.out; unfold argOk at *; exact newR_ok (by omega) HB.out.1 (by omega) (by omega) hx0)
        have HMN := fun q h4 => Lib.hid (mid_none q hgh HOK.out h4)
        have HMS := fun q h4 => Lib.hid (mid_some q hgh HOK.out h4)
        have hu2 : ∀ q o v o' u t, (((((w.drewN q).alloc o).setCell ⟨g, 1, none⟩ v).alloc o').alloc (.cells #[u] t)).cell? ⟨w.heap.size + 1 + 1, 0, none⟩ = some u := fun q o v o' u t => by
          have := World.cell?_alloc_new ((((w.drewN q).alloc o).setCell ⟨g, 1, none⟩ v).alloc o') #[u] t 0
          simpa [World.setCell, World.drewN] using this
        have hu3 : ∀ q o v o' o'' u t, ((((((w.drewN q).alloc o).alloc o').alloc o'').setCell ⟨g, 1, none⟩ v).alloc (.cells #[u] t)).cell? ⟨w.heap.size + 1 + 1 + 1, 0, none⟩ = some u := fun q o v o' o'' u t => by
          have := World.cell?_alloc_new (((((w.drewN q).alloc o).alloc o').alloc o'').setCell ⟨g, 1, none⟩ v) #[u] t 0
          simpa [World.setCell, World.drewN] using this
        clear hgh
        by_cases p4 : p < 4
        · have b4 : Go.bits .and .i64 p 4 = 0 := perm_four _ (by have := HA.out; exact ⟨this.2.2.1, this.2.2.2.1⟩) p4
          go_wp2
          go_region
          go_wp2_with (at_builtin; refine Stand.out ?_)
          refine ⟨?_⟩
          have hM := (HMN (q + 1) p4).out
          refine wpList_add (bl := bl) hM H.out (by rw [HN.out]; exact HL.out) (by omega) (hu2 (q + 1) _ _ _ _ _) rfl _ _ rfl rfl rfl ?_
          clear hM
          intro ao' bl' cap' W' HAP hA1 hA2 hA3
          simp only [newR] at hA3
          go_wp2
          go_ret2
          refine ⟨fun h => absurd (HT.out.symm.trans h) (by simp), fun _ h => absurd (HN.out.trans h) d1, fun _ hl => ⟨rfl, _, _, ?_, add_done (nn := nn) (bl := bl) H.out (by rw [HN.out]; exact HL.out) HN.out (HMN (q + 1) p4).out HAP.out rfl (not_busy HT.out (by rw [HLL.out, HSN.out]) nx p) (by simp) (by omega)⟩⟩
          rw [HSN.out, Int.toNat_natCast]
        · have b4 : Go.bits .and .i64 p 4 = 4 := perm_four' _ (by have := HA.out; exact ⟨this.2.2.1, this.2.2.2.1⟩) p4
          go_wp2
          go_region
          go_wp2_with (at_builtin; refine Stand.out ?_)
          refine ⟨?_⟩
          have hM := (HMS (q + 1) p4).out
          refine wpList_add (bl := bl) hM H.out (by rw [HN.out]; exact HL.out) (by omega) (hu3 (q + 1) _ _ _ _ _ _) rfl _ _ rfl rfl rfl ?_
          clear hM
          intro ao' bl' cap' W' HAP hA1 hA2 hA3
          simp only [newR] at hA3
          go_wp2
          go_ret2
          refine ⟨fun h => absurd (HT.out.symm.trans h) (by simp), fun _ h => absurd (HN.out.trans h) d1, fun _ hl => ⟨rfl, _, _, ?_, add_done (nn := nn) (bl := bl) H.out (by rw [HN.out]; exact HL.out) HN.out (HMS (q + 1) p4).out HAP.out rfl (not_busy HT.out (by rw [HLL.out, HSN.out]) nx p) (by simp) (by omega)⟩⟩
          rw [HSN.out, Int.toNat_natCast]
end
end Go.Proofs.Ytpjgaacdohiomaa.Mem7
