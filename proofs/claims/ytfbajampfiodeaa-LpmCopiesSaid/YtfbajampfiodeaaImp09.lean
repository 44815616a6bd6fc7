/- lpm.Index and the document's of the kind 3, side by side: the names that the templates ask for. -/
import Derived.Test.YtfbajampfiodeaaLpm5
namespace Go.Proofs.Ytfbajampfiodeaa.Imp09
open Go.RowKit Go.Proofs.Ytfbajampfiodeaa.PArrayPlays Go.Proofs.YtfbajampfiodeaaW.PrintWords Go.Proofs.YtfbajampfiodeaaW.PrintLast Go.Proofs.YtfbajampfiodeaaW.PrintMore Go.Proofs.Ytfbajampfiodeaa.Mw Go.Proofs.Ytfbajampfiodeaa.Rx Go.Proofs.Ytfbajampfiodeaa.RxOps Go.Proofs.Ytfbajampfiodeaa.Fresh Go.Proofs.Ytfbajampfiodeaa.LpmM
set_option linter.unusedVariables false
abbrev kd : Int := 3
abbrev Imp := LpmI.Imp
section
variable {w w' : World} {F F' : Nat → Prop} {g n : Nat} {sz : Int} {st : St}
theorem imp_find (h : Imp w F g n sz st) (A : Option Addr) (c : Nat) (l : List Int) (hC : Kd.C (Kd.int .u8) w A l.length l) (hl : l.length ≤ c) (hlb : ∀ x ∈ l, 0 ≤ x ∧ x ≤ 255) (hA : ∀ ad, A = some ad → 0 < l.length → ¬ F ad.block) :
    Calls Try.prog 52 #[.pointer (some ⟨g, 0, none⟩), .slice A l.length c] w fun e w' => e = .returned (.tuple #[.int .i64 (max (fnd kd sz st l).1 0), .bool (decide (0 ≤ (fnd kd sz st l).1))]) ∧ ∃ F', Imp w' F' g (n + 1) sz (fnd kd sz st l).2 ∧ Step w w' F F' := LpmI.imp_find h A c l hC hl hlb hA
theorem imp_put (h : Imp w F g n sz st) (hn : n < 1099511627776) (A : Option Addr) (c : Nat) (l : List Int) (f : Int) (hC : Kd.C (Kd.int .u8) w A l.length l) (hl : l.length ≤ c) (hlb : ∀ x ∈ l, 0 ≤ x ∧ x ≤ 255) (hA : ∀ ad, A = some ad → 0 < l.length → ¬ F ad.block) :
    Calls Try.prog 49 #[.pointer (some ⟨g, 0, none⟩), .slice A l.length c, .int .u64 f] w fun e w' => e = .returned (.tuple #[.int .i64 (put kd sz st l f).1.1, .bool (put kd sz st l f).1.2.1, .int .i64 (put kd sz st l f).1.2.2]) ∧ ∃ F', Imp w' F' g (n + 1) sz (put kd sz st l f).2 ∧ Step w w' F F' := LpmI.imp_put h hn A c l f hC hl hlb hA
theorem imp_del (h : Imp w F g n sz st) (A : Option Addr) (c : Nat) (l : List Int) (hC : Kd.C (Kd.int .u8) w A l.length l) (hl : l.length ≤ c) (hlb : ∀ x ∈ l, 0 ≤ x ∧ x ≤ 255) (hA : ∀ ad, A = some ad → 0 < l.length → ¬ F ad.block) :
    Calls Try.prog 55 #[.pointer (some ⟨g, 0, none⟩), .slice A l.length c] w fun e w' => e = .returned (.tuple #[.int .i64 (del kd sz st l).1.1, .int .i64 (del kd sz st l).1.2]) ∧ ∃ F', Imp w' F' g (n + 1) sz (del kd sz st l).2 ∧ Step w w' F F' := LpmI.imp_del h A c l hC hl hlb hA
theorem imp_keys (h : Imp w F g n sz st) :
    Calls Try.prog 50 #[.pointer (some ⟨g, 0, none⟩)] w fun e w' => ∃ v, e = .returned v ∧ FreshRows w' w.heap.size v (keys st) ∧ Below w.heap.size w w' := LpmI.imp_keys h
theorem imp_copy (h : Imp w F g n sz st) :
    Calls Try.prog 56 #[.pointer (some ⟨g, 0, none⟩)] w fun e w' => ∃ F' g', e = .returned (.pointer (some ⟨g', 0, none⟩)) ∧ Imp w' F' g' n sz st ∧ (∀ b, F' b → w.heap.size ≤ b) ∧ Below w.heap.size w w' := LpmI.imp_copy h
end
theorem nil_find (A : Option Addr) (l c : Nat) (w : World) : Calls Try.prog 52 #[.pointer none, .slice A l c] w fun e w' => e = .returned (.tuple #[.int .i64 0, .bool false]) ∧ w = w' := LpmY.Find_nil A l c w
theorem nil_put (A : Option Addr) (l c : Nat) (f : Int) (w : World) : Calls Try.prog 49 #[.pointer none, .slice A l c, .int .u64 f] w fun e w' => e = .returned (.tuple #[.int .i64 0, .bool false, .int .i64 1]) ∧ w = w' := LpmY.Put_nil A l c f w
theorem nil_del (A : Option Addr) (l c : Nat) (w : World) : Calls Try.prog 55 #[.pointer none, .slice A l c] w fun e w' => e = .returned (.tuple #[.int .i64 0, .int .i64 1]) ∧ w = w' := LpmY.Del_nil A l c w
theorem nil_keys (w : World) : Calls Try.prog 50 #[.pointer none] w fun e w' => e = .returned (.slice none 0 0) ∧ w = w' := LpmY.Keys_nil w
theorem nil_copy (w : World) : Calls Try.prog 56 #[.pointer none] w fun e w' => e = .returned (.pointer none) ∧ w = w' := LpmY.Copy_nil w
/-- The sizes that may be. -/
def SzOk (s m : Int) : Prop := 5 ≤ s ∧ s ≤ 16 ∧ 1 ≤ m ∧ m ≤ 64
abbrev szOf (s : Int) : Int := s
abbrev st0 (m : Int) : St := LpmI.st0 m
theorem new_both (s m : Int) (h : SzOk s m) :
    (∀ w, Calls Try.prog 48 #[.int .i64 s, .int .i64 m] w fun e w' => ∃ F g, e = .returned (.tuple #[.pointer (some ⟨g, 0, none⟩), .int .i64 0]) ∧ Imp w' F g 0 (szOf s) (st0 m) ∧ (∀ b, F b → w.heap.size ≤ b) ∧ Below w.heap.size w w') ∧
    (∀ w, Calls Try.prog 18 #[.int .i64 3, .int .i64 s, .int .i64 m] w fun e w' => ∃ F g, e = .returned (.tuple #[.pointer (some ⟨g, 0, none⟩), .bool true]) ∧ RI w' F g kd (szOf s) (st0 m) ∧ (∀ b, F b → w.heap.size ≤ b) ∧ Below w.heap.size w w') := by
  refine ⟨LpmI.new_imp s m h, ?_⟩
  obtain ⟨k, rfl⟩ := Int.eq_ofNat_of_zero_le (show 0 ≤ m by have := h.2.2.1; omega)
  obtain ⟨h1, h2, h3, h4⟩ := h
  exact fun w => (RxNew.New3_ok s k w h1 h2 (by omega) (by omega)).mono fun e w' ⟨F, g, gs, gw, he, hI, hF, hB⟩ => ⟨F, g, he, ⟨gs, gw, _, hI, ⟨h1, fun k hk => by cases (List.eq_of_mem_replicate hk)⟩⟩, hF, hB⟩
theorem new_bad (s m : Int) (h : ¬ SzOk s m) :
    (∀ w, Calls Try.prog 48 #[.int .i64 s, .int .i64 m] w fun e w' => e = .returned (.tuple #[.pointer none, .int .i64 2]) ∧ w = w') ∧
    (∀ w, Calls Try.prog 18 #[.int .i64 3, .int .i64 s, .int .i64 m] w fun e w' => e = .returned (.tuple #[.pointer none, .bool false]) ∧ w = w') := by
  unfold SzOk at h
  exact ⟨fun w => LpmY.New_bad s m w (by omega), fun w => RxNew.New3_bad s m w (by omega)⟩
end Go.Proofs.Ytfbajampfiodeaa.Imp09
