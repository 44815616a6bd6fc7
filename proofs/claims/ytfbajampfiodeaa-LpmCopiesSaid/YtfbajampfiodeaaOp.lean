/- A script of calls in memory: its elements. -/
import Derived.Test.YtfbajampfiodeaaFresh
namespace Go.Proofs.Ytfbajampfiodeaa.Op
open Go.RowKit Go.Proofs.Ytfbajampfiodeaa.PArrayPlays Go.Proofs.YtfbajampfiodeaaW.PrintWords Go.Proofs.YtfbajampfiodeaaW.PrintLast Go.Proofs.YtfbajampfiodeaaW.PrintMore Go.Proofs.Ytfbajampfiodeaa.Mw Go.Proofs.Ytfbajampfiodeaa.Rx
set_option linter.unusedVariables false
abbrev kOp : Kd (Int × List Int × Int) := Kd.pair (Kd.int .i64) (Kd.pair (Kd.slice 5 (Kd.int .u8)) (Kd.int .u64))
/-- An element of the script: its three cells. -/
theorem op_at {w : World} {A : Option Addr} {n : Nat} {xs : List (Int × List Int × Int)} (h : Kd.C kOp w A n xs) (i : Nat) (hi : i < n) :
    ∃ ad a l f A1 c1, A = some ad ∧ w.cell? (ad.add (i * 3)) = some (.int .i64 a) ∧ w.cell? ⟨(ad.add (i * 3)).block, (ad.add (i * 3)).off + 1, none⟩ = some (.slice A1 l.length c1) ∧ w.cell? ⟨(ad.add (i * 3)).block, (ad.add (i * 3)).off + 2, none⟩ = some (.int .u64 f) ∧ l.length ≤ c1 ∧ Kd.C (Kd.int .u8) w A1 l.length l ∧ (a, l, f) ∈ xs := by
  obtain ⟨ad, c, e, _, hK, hc⟩ := Kd.C_get h ((0, [], 0) : Int × List Int × Int) (i : Int) (by omega) (by omega)
  have hm : xs.getD (i : Int).toNat (0, [], 0) ∈ xs := by
    have hl : i < xs.length := by have := Kd.C_len h; omega
    rw [Int.toNat_natCast, List.getD_eq_getElem?_getD, List.getElem?_eq_getElem hl]
    exact List.getElem_mem hl
  generalize xs.getD (i : Int).toNat (0, [], 0) = p at *
  obtain ⟨a, l, f⟩ := p
  obtain ⟨k0, k1, rfl, h0, k10, k11, rfl, ⟨A1, c1, rfl, hl, hC⟩, h2⟩ := hK
  have h0 : k0 = [.int .i64 a] := h0
  have h2 : k11 = [.int .u64 f] := h2
  subst h0; subst h2
  have hc : ∀ j u, ([Value.int .i64 a] ++ ([Value.slice A1 l.length c1] ++ [Value.int .u64 f]))[j]? = some u → w.cell? (ad.add (i * 3 + j)) = some u := hc
  exact ⟨ad, a, l, f, A1, c1, e, hc 0 _ rfl, by rw [← add_field _ _ 1 (by omega)]; exact hc 1 _ rfl, by rw [← add_field _ _ 2 (by omega)]; exact hc 2 _ rfl, hl, hC, hm⟩
/-- A row that came in lies below what the call made. -/
theorem row_low {w : World} {A : Option Addr} {l : List Int} (h : Kd.C (Kd.int .u8) w A l.length l) : ∀ ad, A = some ad → 0 < l.length → ad.block < w.heap.size := by
  intro ad e hl
  obtain ⟨ad', c, e', _, hK1, hc⟩ := Kd.C_get h (0 : Int) 0 (by omega) (by omega)
  rw [e] at e'
  cases e'
  have hu := hc 0 (.int .u8 (l.getD (0 : Int).toNat 0)) (by rw [show c = [.int .u8 (l.getD (0 : Int).toNat 0)] from hK1]; rfl)
  have := World.block_lt_of_cell? w _ hu
  unfold Addr.add at this
  split at this <;> exact this
end Go.Proofs.Ytfbajampfiodeaa.Op
