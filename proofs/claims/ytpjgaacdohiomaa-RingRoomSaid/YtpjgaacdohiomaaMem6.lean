/- mem: lay, of a region all of whose bytes are set, walked by hand. -/
import Derived.Test.YtpjgaacdohiomaaMem5
import Derived.Laws.CopyRow
namespace Go.Proofs.Ytpjgaacdohiomaa.Mem6
open Go.RowKit Go.Proofs.Ytpjgaacdohiomaa.PMemCopies Go.Proofs.YtpjgaacdohiomaaW.PrintWords Go.Proofs.YtpjgaacdohiomaaW.PrintLast Go.Proofs.YtpjgaacdohiomaaW.PrintMore Go.Proofs.Ytpjgaacdohiomaa.Mw Go.Proofs.Ytpjgaacdohiomaa.Mem1 Go.Proofs.Ytpjgaacdohiomaa.Mem2 Go.Proofs.Ytpjgaacdohiomaa.Mem3 Go.Proofs.Ytpjgaacdohiomaa.Mem4
set_option linter.unusedVariables false
set_option linter.unusedSimpArgs false
/-- Bytes with others laid over them. -/
def over {α : Type} (l xs : List α) (i : Nat) : List α := l.take i ++ xs ++ l.drop (i + xs.length)
theorem over_len {α : Type} {l xs : List α} {i : Nat} (h : i + xs.length ≤ l.length) : (over l xs i).length = l.length := by unfold over; simp; omega
set_option maxRecDepth 4000 in
theorem lay_run {w : World} {F : Nat → Prop} {e : Ent} (h : RegAt w F e) (i : Nat) (ad : Addr) (c d : Nat) (xs : List Int) (hC : Kd.C (Kd.int .u8) w (some ad) xs.length xs) (hfit : i + xs.length ≤ e.r.bytes.length) (hx : 0 < xs.length) (ty : TypeId) :
    ∃ cells, (Builtin.copy_ #[36, 36] ty #[.slice (some ⟨e.gb, i, none⟩) (e.r.bytes.length - i) d, .slice (some ad) xs.length c]).run Try.prog w = .ok (goInt xs.length) (w.setRow e.gb cells) ∧ ∃ rest, cells = ((over e.r.bytes xs i).map (Value.int .u8) ++ rest).toArray := by
  obtain ⟨rest, hrow⟩ := h.row
  have hcell : ∀ (j : Nat) (v : Value), (xs.map (Value.int .u8))[j]? = some v → w.cell? (ad.add j) = some v := fun j v hj => by
    rw [List.getElem?_map] at hj
    obtain ⟨x, hx, rfl⟩ := Option.map_eq_some_iff.1 hj
    obtain ⟨ad', e', hc⟩ := hC.2.2 (by have := (List.getElem?_eq_some_iff.1 hx).1; omega)
    cases e'
    obtain ⟨cs, hz, hK, hu⟩ := hc j x hx
    have hK : cs = [.int .u8 x] := hK
    have := hu 0 (.int .u8 x) (by rw [hK]; rfl)
    rwa [show (Kd.int .u8).sz = 1 from rfl, Nat.mul_one, Nat.add_zero] at this
  have hsz : (Try.prog.info? 5).map (·.size) = some 1 := by
    obtain ⟨i, hi, _, hs, _⟩ := info_parts info5
    rw [hi]
    exact congrArg some hs
  have hr := run_copy_row (P := Try.prog) w 36 36 ty 5 e.gb i (e.r.bytes.length - i) d ad xs.length c _ 5 (xs.map (Value.int .u8)) Try.underlying36 hsz hrow (by rw [List.length_map]; show _ = min _ _; omega) hcell (by simp; omega) (fun v hv => by obtain ⟨x, _, rfl⟩ := List.mem_map.1 hv; rfl)
  rw [List.length_map] at hr
  refine ⟨_, hr, rest, ?_⟩
  congr 1
  unfold over
  rw [List.map_append, List.map_append, List.map_take, List.map_drop]
  rw [List.take_append_of_le_length (by rw [List.length_map]; omega), List.drop_append_of_le_length (by rw [List.length_map]; omega), List.append_assoc]
  simp
theorem heap_setRow_ne {b g : Nat} (w : World) (cs : Array Value) (h : b ≠ g) : (w.setRow g cs).heap[b]? = w.heap[b]? := by
  simp [World.setRow, Array.getElem?_modify, Ne.symm h]
theorem lay_all {w : World} {F : Nat → Prop} {e : Ent} (h : RegAt w F e) (hset : e.r.set = none) (i : Nat) (ad : Addr) (c : Nat) (xs : List Int) (hC : Kd.C (Kd.int .u8) w (some ad) xs.length xs) (hfit : i + xs.length ≤ e.r.bytes.length) (hx : 0 < xs.length) (hxc : xs.length ≤ c) :
    Calls Try.prog 49 #[.pointer (some ⟨e.b, 0, none⟩), .int .i64 (i : Int), .slice (some ad) xs.length c] w fun x w' => x = .returned (.tuple #[]) ∧ ∃ rest, w' = w.setRow e.gb ((over e.r.bytes xs i).map (Value.int .u8) ++ rest).toArray := by
  obtain ⟨cb, sv, r0, r1, r2, r3, r4, hcb, hsv⟩ := h.cells
  rw [hset] at hsv
  obtain rfl : sv = .slice none 0 0 := hsv
  have hlen := h.ok.len
  obtain ⟨cells, hrun, rest, hcells⟩ := lay_run h i ad c (cb - i) xs hC hfit hx 3
  have hne : e.b ≠ e.gb := by
    obtain ⟨_, _, hb, _⟩ := h.self
    obtain ⟨_, hg⟩ := h.row
    exact blk_ne hb hg (by decide)
  have hq := fun W => run_neq_slice_nil_any (P := Try.prog) W 37 4 none 0 0 0 0 Try.underlying37
  have r4' : (w.setRow e.gb cells).cell? ⟨e.b, 4, none⟩ = some (.slice none 0 0) := by
    rw [← r4]
    exact World.cell?_of_block (a := ⟨e.b, 4, none⟩) (heap_setRow_ne w cells hne)
  have hi0 : (0 : Int) ≤ (i : Int) := by omega
  have hi1 : (i : Int) ≤ (e.r.bytes.length : Int) := by omega
  have hi2 : ¬ cb = i := by omega
  have HC := Lib.hid hcells
  obtain ⟨n, hn⟩ : ∃ n, n = xs.length := ⟨_, rfl⟩
  rw [← hn] at hrun hxc hfit hx ⊢
  have HN := Lib.hid hn
  clear h hset hC r0 r1 r2 hcells hn
  go_enter Try.func49, Try.ntmps49
  go_wp2
  go_loop [6] (fun v => v = .int .i64 (i : Int)) (fun _ => 0)
  case atStart => rfl
  case round =>
    obtain rfl := hrel
    go_wp2
    go_end0
    exact ⟨rfl, rest, by rw [HC.out]⟩
end Go.Proofs.Ytpjgaacdohiomaa.Mem6
