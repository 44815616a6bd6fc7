/- mem.Memory: Bytes, walked by hand; nil ones. -/
import Derived.Test.YtpjgaacdohiomaaMem2
namespace Go.Proofs.Ytpjgaacdohiomaa.Mem3
open Go.RowKit Go.Proofs.Ytpjgaacdohiomaa.PMemCopies Go.Proofs.YtpjgaacdohiomaaW.PrintWords Go.Proofs.YtpjgaacdohiomaaW.PrintLast Go.Proofs.YtpjgaacdohiomaaW.PrintMore Go.Proofs.Ytpjgaacdohiomaa.Mw Go.Proofs.Ytpjgaacdohiomaa.Mem1 Go.Proofs.Ytpjgaacdohiomaa.Mem2
set_option linter.unusedVariables false
set_option linter.unusedSimpArgs false
theorem old {w w' : World} (hb : Below w.heap.size w w') {p : Addr} {v : Value} (h : w.cell? p = some v) : w'.cell? p = some v := (hb.cell (World.block_lt_of_cell? w p h)).trans h
theorem row_of_owns {w : World} {B e n : Nat} {v : Value} {xs : List Value} (h : w.ownsRow B e 1 v n xs) (hn : v ≠ .slice none 0 0) : ∃ b c, v = .slice (some ⟨b, 0, none⟩) n c ∧ n ≤ c ∧ B ≤ b ∧ Row w b e xs := by
  rcases h.2 with ⟨h0, _⟩ | ⟨b, cap, cur, e, hB, hb, h1, h2, h3, h4⟩
  · exact absurd h0 hn
  · rw [Nat.mul_one] at h4
    exact ⟨b, cap, e, h1, hB, cur.toList.drop n, by rw [hb, ← h4, List.take_append_drop]⟩
/-- bytes.Clone of a part of a row. -/
theorem clone_ {w : World} {b : Nat} {l : List Int} (h : Row w b 5 (l.map (Value.int .u8))) (o n c : Nat) (ho : o + n ≤ l.length) (hn : n ≤ 100000) :
    Calls Try.prog 47 #[.slice (some ⟨b, o, none⟩) n c] w fun e w' => ∃ b' c', e = .returned (.slice (some ⟨b', 0, none⟩) n c') ∧ n ≤ c' ∧ w.heap.size ≤ b' ∧ Row w' b' 5 (((l.drop o).take n).map (Value.int .u8)) ∧ Below w.heap.size w w' := by
  have hlen : ((l.drop o).take n).length = n := by rw [List.length_take, List.length_drop]; omega
  refine (Try.bytes_Clone_at ⟨b, o, none⟩ n c ((l.drop o).take n) w hlen (by omega) (fun i hi => ?_)).mono ?_
  · have e : (⟨b, o, none⟩ : Addr).add i = ⟨b, o + i, none⟩ := by unfold Addr.add; split <;> simp_all
    rw [e, h.cell (o + i) (by rw [List.length_map]; omega), List.getElem_map, List.getD_eq_getElem?_getD, List.getElem?_take_of_lt hi, List.getElem?_drop, List.getElem?_eq_getElem (by omega)]
    rfl
  · rintro e w' ⟨v', rfl, ho, hn, hB⟩
    obtain ⟨b', c', rfl, h1, h2, h3⟩ := row_of_owns ho hn
    exact ⟨b', c', rfl, h1, h2, h3, hB⟩
section
variable {w : World} {F : Nat → Prop} {g : Nat} {es : List Ent} {nx : Int}
theorem Bytes_none (h : MIx w F g es nx) (id : Int) (hi : idE es id = none) :
    Calls Try.prog 18 #[.pointer (some ⟨g, 0, none⟩), .int .i64 id] w fun e w' => e = .returned (.tuple #[.slice none 0 0, .int .i64 14]) ∧ w = w' := by
  have HC := Lib.hid (region_ h id)
  rw [hi] at HC
  simp only [ptrO] at HC
  clear h hi
  go_enter Try.func18, Try.ntmps18
  go_wp2_with fail
  refine HC.out.mono ?_
  rintro e w1 ⟨rfl, rfl⟩
  go_wp2
  go_ret2
  exact ⟨rfl, rfl⟩
theorem Bytes_some (h : MIx w F g es nx) (id : Int) (e : Ent) (i : Nat) (he : es[i]? = some e) (hi : idE es id = some e) :
    Calls Try.prog 18 #[.pointer (some ⟨g, 0, none⟩), .int .i64 id] w fun x w' => ∃ b c, x = .returned (.tuple #[.slice (some ⟨b, 0, none⟩) e.r.bytes.length c, .int .i64 0]) ∧ e.r.bytes.length ≤ c ∧ w.heap.size ≤ b ∧ Row w' b 5 (e.r.bytes.map (Value.int .u8)) ∧ Below w.heap.size w w' := by
  have HC := Lib.hid (region_ h id)
  rw [hi] at HC
  simp only [ptrO] at HC
  have hR := h.regs i e he
  obtain ⟨cb, sv, r0, r1, r2, r3, r4, hcb, hsv⟩ := hR.cells
  have hlen := hR.ok.len
  have hrow := hR.row
  have HCL : Hid (∀ n, Calls Try.prog 47 #[.slice (some ⟨e.gb, 0, none⟩) e.r.bytes.length cb] (w.drewN n) fun x w' => ∃ b' c', x = .returned (.slice (some ⟨b', 0, none⟩) e.r.bytes.length c') ∧ e.r.bytes.length ≤ c' ∧ w.heap.size ≤ b' ∧ Row w' b' 5 (e.r.bytes.map (Value.int .u8)) ∧ Below w.heap.size w w') := Lib.hid (fun n => by
    have := clone_ (w := w.drewN n) (show Row (w.drewN n) e.gb 5 _ from hrow) 0 e.r.bytes.length cb (by omega) (by omega)
    rw [List.drop_zero, List.take_length] at this
    exact this.mono fun x w' ⟨b', c', h1, h2, h3, h4, h5⟩ => ⟨b', c', h1, h2, h3, h4, ⟨h5.os, h5.tape, h5.output, h5.size, h5.block⟩⟩)
  clear h hi he hR r0 r1 r2 r4 hcb hsv hrow
  go_enter Try.func18, Try.ntmps18
  go_wp2_with fail
  refine HC.out.mono ?_
  rintro x w1 ⟨rfl, rfl⟩
  go_wp2_with fail
  refine (HCL.out 0).mono ?_
  rintro x w2 ⟨b, c, rfl, h1, h2, h3, h4⟩
  have H1 := Lib.hid (And.intro h1 (And.intro h2 (And.intro h3 h4)))
  clear h1 h2 h3 h4 HCL HC
  go_wp2
  go_ret2
  exact ⟨b, c, rfl, H1.out⟩
end
/-! ### nil ones -/
theorem nil_Add (a : Int) (s p : Int) (w : World) : Calls Try.prog 14 #[.pointer none, .int .u64 a, .int .i64 s, .int .i64 p] w fun e w' => e = .returned (.tuple #[.int .i64 0, .int .i64 1]) ∧ w = w' := by
  go_enter Try.func14, Try.ntmps14
  go_wp2
  go_ret2
  exact ⟨rfl, rfl⟩
theorem nil_Kill (i : Int) (w : World) : Calls Try.prog 21 #[.pointer none, .int .i64 i] w fun e w' => e = .returned (.int .i64 1) ∧ w = w' := by
  go_enter Try.func21, Try.ntmps21
  go_wp2
  go_ret
  exact ⟨rfl, rfl⟩
theorem nil_Count (w : World) : Calls Try.prog 19 #[.pointer none] w fun e w' => e = .returned (.int .i64 0) ∧ w = w' := by
  go_enter Try.func19, Try.ntmps19
  go_wp2
  go_ret
  exact ⟨rfl, rfl⟩
theorem nil_Find (a : Int) (w : World) : Calls Try.prog 28 #[.pointer none, .int .u64 a] w fun e w' => e = .returned (.tuple #[.int .i64 0, .int .i64 0, .bool false]) ∧ w = w' := by
  go_enter Try.func28, Try.ntmps28
  go_wp2
  go_ret3
  exact ⟨rfl, rfl⟩
theorem nil_Load (a s : Int) (w : World) : Calls Try.prog 16 #[.pointer none, .int .u64 a, .int .i64 s] w fun e w' => e = .returned (.tuple #[.int .u64 0, .int .i64 1]) ∧ w = w' := by
  go_enter Try.func16, Try.ntmps16
  go_wp2
  go_ret2
  exact ⟨rfl, rfl⟩
theorem nil_Store (a s v : Int) (w : World) : Calls Try.prog 15 #[.pointer none, .int .u64 a, .int .i64 s, .int .u64 v] w fun e w' => e = .returned (.int .i64 1) ∧ w = w' := by
  go_enter Try.func15, Try.ntmps15
  go_wp2
  go_ret
  exact ⟨rfl, rfl⟩
theorem nil_Read (a n : Int) (w : World) : Calls Try.prog 17 #[.pointer none, .int .u64 a, .int .i64 n] w fun e w' => e = .returned (.tuple #[.slice none 0 0, .int .i64 1]) ∧ w = w' := by
  go_enter Try.func17, Try.ntmps17
  go_wp2
  go_ret2
  exact ⟨rfl, rfl⟩
theorem nil_Write (a : Int) (v : Value) (w : World) : Calls Try.prog 20 #[.pointer none, .int .u64 a, v] w fun e w' => e = .returned (.int .i64 1) ∧ w = w' := by
  go_enter Try.func20, Try.ntmps20
  go_wp2
  go_ret
  exact ⟨rfl, rfl⟩
theorem nil_Bytes (i : Int) (w : World) : Calls Try.prog 18 #[.pointer none, .int .i64 i] w fun e w' => e = .returned (.tuple #[.slice none 0 0, .int .i64 1]) ∧ w = w' := by
  go_enter Try.func18, Try.ntmps18
  go_wp2
  go_ret2
  exact ⟨rfl, rfl⟩
theorem nil_Poke (i a : Int) (v : Value) (w : World) : Calls Try.prog 29 #[.pointer none, .int .i64 i, .int .i64 a, v] w fun e w' => e = .returned (.int .i64 1) ∧ w = w' := by
  go_enter Try.func29, Try.ntmps29
  go_wp2
  go_ret
  exact ⟨rfl, rfl⟩
theorem nil_Copy (w : World) : Calls Try.prog 25 #[.pointer none] w fun e w' => e = .returned (.pointer none) ∧ w = w' := by
  go_enter Try.func25, Try.ntmps25
  go_wp2
  go_ret
  exact ⟨rfl, rfl⟩
end Go.Proofs.Ytpjgaacdohiomaa.Mem3
