/- mem.Memory: New, Count, at, region, Live, Find, walked by hand. -/
import Derived.Test.YtpjgaacdohiomaaMem1
namespace Go.Proofs.Ytpjgaacdohiomaa.Mem2
open Go.RowKit Go.Proofs.Ytpjgaacdohiomaa.PMemCopies Go.Proofs.YtpjgaacdohiomaaW.PrintWords Go.Proofs.YtpjgaacdohiomaaW.PrintLast Go.Proofs.YtpjgaacdohiomaaW.PrintMore Go.Proofs.Ytpjgaacdohiomaa.Mw Go.Proofs.Ytpjgaacdohiomaa.Mem1
set_option linter.unusedVariables false
set_option linter.unusedSimpArgs false
/-- The byte is the region's. -/
def inR (a : Int) (e : Ent) : Bool := decide (e.r.base ≤ a) && decide (a - e.r.base < e.r.bytes.length)
def atR (es : List Ent) (a n : Int) : Option (Ent × Int) :=
  match es.find? (inR a) with
  | some e => if n ≤ e.r.bytes.length - (a - e.r.base) then some (e, a - e.r.base) else none
  | none => none
def atV : Option (Ent × Int) → Value
  | some (e, d) => .tuple #[.pointer (some ⟨e.b, 0, none⟩), .int .i64 d]
  | none => .tuple #[.pointer none, .int .i64 0]
theorem find_drop (p : Ent → Bool) (es : List Ent) (k : Nat) (e : Ent) (h : es[k]? = some e) : (es.drop k).find? p = if p e then some e else (es.drop (k + 1)).find? p := by
  obtain ⟨hk, rfl⟩ := List.getElem?_eq_some_iff.1 h
  rw [List.drop_eq_getElem_cons hk, List.find?_cons]
  cases p es[k] <;> rfl
section
variable {w : World} {F : Nat → Prop} {g : Nat} {es : List Ent} {nx : Int}
theorem New_ (w : World) : Calls Try.prog 13 #[] w fun e w' => ∃ F g, e = .returned (.pointer (some ⟨g, 0, none⟩)) ∧ MIx w' F g [] 0 ∧ (∀ b, F b → w.heap.size ≤ b) ∧ Below w.heap.size w w' := by
  have HB := Lib.hid (Below.refl w.heap.size w)
  have HM : Hid (MIx (w.alloc (.cells #[.slice none 0 0, .int .i64 0] 91)) (fun b => b = w.heap.size) w.heap.size [] 0) := Lib.hid ⟨⟨none, 0, 0, heap_alloc_new w _, ⟨⟨Nat.le_refl _, fun h => absurd h (by omega), fun h => absurd h (by omega), rfl, fun j u h => by simp at h, fun j h => by omega⟩, fun h => absurd h (by omega)⟩⟩, fun i e h => by simp at h, fun i j e e' h => by simp at h, rfl, fun b hb => by subst hb; simp, fun i e h => by simp at h, fun i j e e' h => by simp at h, fun i j e e' h => by simp at h, Int.le_refl _, by simp⟩
  go_enter Try.func13, Try.ntmps13
  go_wp2
  go_ret
  exact ⟨_, _, rfl, HM.out, fun b hb => by omega, below_alloc HB.out _⟩
theorem Count_ (h : MIx w F g es nx) : Calls Try.prog 19 #[.pointer (some ⟨g, 0, none⟩)] w fun e w' => e = .returned (.int .i64 (es.length : Int)) ∧ w = w' := by
  obtain ⟨ao, bl, cap, g0, g1, gf, hc, hL⟩ := h.cells
  have := h.len
  clear h g1 gf hL
  go_enter Try.func19, Try.ntmps19
  go_wp2
  go_ret
  exact ⟨rfl, rfl⟩
theorem at_ (h : MIx w F g es nx) (a n : Int) (ha : 0 ≤ a ∧ a < 18446744073709551616) (hn : 1 ≤ n) :
    Calls Try.prog 46 #[.pointer (some ⟨g, 0, none⟩), .int .u64 a, .int .i64 n] w fun e w' => e = .returned (atV (atR es a n)) ∧ w = w' := by
  obtain ⟨ao, bl, cap, g0, g1, gf, hc, hL⟩ := h.cells
  have hlen := h.len
  have HL := Lib.hid hL
  have H := Lib.hid h
  have HA := Lib.hid ha
  obtain ⟨nn, hnn⟩ : ∃ nn, nn = es.length := ⟨_, rfl⟩
  have HN := Lib.hid hnn
  rw [← hnn] at g0 hc hlen
  clear h g1 gf hL hnn ha
  go_enter Try.func46, Try.ntmps46
  go_wp2
  go_loop [16] (fun i => ∃ k : Nat, k ≤ nn ∧ i = .int .i64 (k : Int) ∧ Hid (es.find? (inR a) = (es.drop k).find? (inR a))) (fun i => nn - (intOf i).toNat)
  case atStart => exact ⟨0, Nat.zero_le _, rfl, Lib.hid rfl⟩
  case round =>
    obtain ⟨k, hk, rfl, HS⟩ := hrel
    by_cases hlt : k < nn
    · obtain ⟨e, hi⟩ : ∃ e, es[k]? = some e := ⟨_, List.getElem?_eq_getElem (by rw [← HN.out]; exact hlt)⟩
      obtain ⟨rfl, ge⟩ := HL.out.at_ hi
      have hR := H.out.regs k e hi
      obtain ⟨cb, sv, r0, r1, r2, r3, r4, hcb, hsv⟩ := hR.cells
      have hb1 := hR.ok.len
      have hb2 := hR.ok.base
      have hfd := find_drop (inR a) es k e hi
      clear r0 r2 r4 hsv hR
      by_cases c1 : e.r.base ≤ a
      · obtain ⟨d, hd⟩ : ∃ d, d = a - e.r.base := ⟨_, rfl⟩
        have hw : IntKind.u64.wrap (a - e.r.base) = d := by have := HA.out; rw [IntKind.wrap_u64]; omega
        have hd0 : 0 ≤ d := by omega
        have hw2 : IntKind.u64.wrap ((e.r.bytes.length : Int)) = (e.r.bytes.length : Int) := by rw [IntKind.wrap_u64]; omega
        by_cases c2 : d < (e.r.bytes.length : Int)
        · have hin : inR a e = true := by unfold inR; rw [decide_eq_true c1, ← hd, decide_eq_true c2]; rfl
          have HF : Hid (es.find? (inR a) = some e) := Lib.hid (by rw [HS.out, hfd, hin]; rfl)
          have hw3 : wrap64 d = d := by unfold wrap64; omega
          have c1' : a ≥ e.r.base := c1
          clear hfd hin HS
          have HD := Lib.hid hd
          clear hd c1
          by_cases c3 : n ≤ (e.r.bytes.length : Int) - d
          · have HV : Hid (atV (atR es a n) = .tuple #[.pointer (some ⟨e.b, 0, none⟩), .int .i64 d]) := Lib.hid (by unfold atR; rw [HF.out]; simp only; rw [← HD.out, if_pos c3]; rfl)
            go_wp2
            go_ret2
            exact ⟨congrArg Ending.returned HV.out.symm, rfl⟩
          · have HV : Hid (atV (atR es a n) = .tuple #[.pointer none, .int .i64 0]) := Lib.hid (by unfold atR; rw [HF.out]; simp only; rw [← HD.out, if_neg c3]; rfl)
            go_wp2
            go_ret2
            exact ⟨congrArg Ending.returned HV.out.symm, rfl⟩
        · have hin : inR a e = false := by unfold inR; rw [← hd, decide_eq_false c2]; simp
          have HS2 : Hid (es.find? (inR a) = (es.drop (k + 1)).find? (inR a)) := Lib.hid (by rw [HS.out, hfd, hin]; rfl)
          have c1' : a ≥ e.r.base := c1
          clear hfd hin HS hd c1
          go_wp2
          go_round
          case rel => exact ⟨k + 1, by omega, by go_num, HS2⟩
          case measure => simp [intOf]; omega
      · have hin : inR a e = false := by unfold inR; rw [decide_eq_false c1]; rfl
        have HS2 : Hid (es.find? (inR a) = (es.drop (k + 1)).find? (inR a)) := Lib.hid (by rw [HS.out, hfd, hin]; rfl)
        have c1' : ¬ (a ≥ e.r.base) := c1
        obtain ⟨d, hd⟩ : ∃ d, IntKind.u64.wrap (a - e.r.base) = d := ⟨_, rfl⟩
        clear hfd hin HS c1
        go_wp2
        go_round
        case rel => exact ⟨k + 1, by omega, by go_num, HS2⟩
        case measure => simp [intOf]; omega
    · have HV : Hid (atV (atR es a n) = .tuple #[.pointer none, .int .i64 0]) := Lib.hid (by unfold atR; rw [HS.out, List.drop_eq_nil_of_le (by rw [← HN.out]; omega)]; rfl)
      go_wp2
      go_ret2
      exact ⟨congrArg Ending.returned HV.out.symm, rfl⟩
def isId (id : Int) (e : Ent) : Bool := decide (e.r.id = id)
def idE (es : List Ent) (id : Int) : Option Ent := es.find? (isId id)
def ptrO : Option Ent → Value
  | some e => .pointer (some ⟨e.b, 0, none⟩)
  | none => .pointer none
theorem region_ (h : MIx w F g es nx) (id : Int) :
    Calls Try.prog 48 #[.pointer (some ⟨g, 0, none⟩), .int .i64 id] w fun e w' => e = .returned (ptrO (idE es id)) ∧ w = w' := by
  obtain ⟨ao, bl, cap, g0, g1, gf, hc, hL⟩ := h.cells
  have hlen := h.len
  have HL := Lib.hid hL
  have H := Lib.hid h
  obtain ⟨nn, hnn⟩ : ∃ nn, nn = es.length := ⟨_, rfl⟩
  have HN := Lib.hid hnn
  rw [← hnn] at g0 hc hlen
  clear h g1 gf hL hnn
  go_enter Try.func48, Try.ntmps48
  go_wp2
  go_loop [14] (fun i => ∃ k : Nat, k ≤ nn ∧ i = .int .i64 (k : Int) ∧ Hid (idE es id = (es.drop k).find? (isId id))) (fun i => nn - (intOf i).toNat)
  case atStart => exact ⟨0, Nat.zero_le _, rfl, Lib.hid rfl⟩
  case round =>
    obtain ⟨k, hk, rfl, HS⟩ := hrel
    by_cases hlt : k < nn
    · obtain ⟨e, hi⟩ : ∃ e, es[k]? = some e := ⟨_, List.getElem?_eq_getElem (by rw [← HN.out]; exact hlt)⟩
      obtain ⟨rfl, ge⟩ := HL.out.at_ hi
      obtain ⟨cb, sv, r0, r1, r2, r3, r4, hcb, hsv⟩ := (H.out.regs k e hi).cells
      have hfd := find_drop (isId id) es k e hi
      clear r1 r2 r3 r4 hsv
      by_cases c1 : e.r.id = id
      · have HV : Hid (ptrO (idE es id) = .pointer (some ⟨e.b, 0, none⟩)) := Lib.hid (by rw [HS.out, hfd, show isId id e = true from decide_eq_true c1]; rfl)
        have b1 : (e.r.id == id) = true := by simpa using c1
        clear hfd HS c1
        go_wp2
        go_ret
        exact ⟨congrArg Ending.returned HV.out.symm, rfl⟩
      · have HS2 : Hid (idE es id = (es.drop (k + 1)).find? (isId id)) := Lib.hid (by rw [HS.out, hfd, show isId id e = false from decide_eq_false c1]; rfl)
        have b1 : (e.r.id == id) = false := by simpa using c1
        clear hfd HS c1
        go_wp2
        go_round
        case rel => exact ⟨k + 1, by omega, by go_num, HS2⟩
        case measure => simp [intOf]; omega
    · have HV : Hid (ptrO (idE es id) = .pointer none) := Lib.hid (by rw [HS.out, List.drop_eq_nil_of_le (by rw [← HN.out]; omega)]; rfl)
      go_wp2
      go_ret
      exact ⟨congrArg Ending.returned HV.out.symm, rfl⟩
theorem Live_ (h : MIx w F g es nx) (id : Int) :
    Calls Try.prog 22 #[.pointer (some ⟨g, 0, none⟩), .int .i64 id] w fun e w' => e = .returned (.bool (idE es id).isSome) ∧ w = w' := by
  have HC := Lib.hid (region_ h id)
  clear h
  cases hi : idE es id with
  | none =>
    rw [hi] at HC
    simp only [ptrO] at HC
    go_enter Try.func22, Try.ntmps22
    go_wp2_with fail
    refine HC.out.mono ?_
    rintro e w1 ⟨rfl, rfl⟩
    go_wp2
    go_ret
    exact ⟨rfl, rfl⟩
  | some e =>
    rw [hi] at HC
    simp only [ptrO] at HC
    go_enter Try.func22, Try.ntmps22
    go_wp2_with fail
    refine HC.out.mono ?_
    rintro e w1 ⟨rfl, rfl⟩
    go_wp2
    go_ret
    exact ⟨rfl, rfl⟩
def findV (es : List Ent) (a : Int) : Value := match atR es a 1 with
  | some (e, d) => .tuple #[.int .i64 e.r.id, .int .i64 d, .bool true]
  | none => .tuple #[.int .i64 0, .int .i64 0, .bool false]
theorem atR_mem {a n : Int} {e : Ent} {d : Int} (h : atR es a n = some (e, d)) : (∃ i : Nat, es[i]? = some e) ∧ inR a e = true ∧ d = a - e.r.base ∧ n ≤ e.r.bytes.length - d := by
  unfold atR at h
  cases hf : es.find? (inR a) with
  | none => rw [hf] at h; cases h
  | some e' =>
    rw [hf] at h
    simp only at h
    split at h
    · rename_i hn
      cases h
      exact ⟨List.mem_iff_getElem?.1 (List.mem_of_find?_eq_some hf), List.find?_some hf, rfl, hn⟩
    · cases h
theorem Find_ (h : MIx w F g es nx) (a : Int) (ha : 0 ≤ a ∧ a < 18446744073709551616) :
    Calls Try.prog 28 #[.pointer (some ⟨g, 0, none⟩), .int .u64 a] w fun e w' => e = .returned (findV es a) ∧ w = w' := by
  have HC := Lib.hid (at_ h a 1 ha (by omega))
  have H := Lib.hid h
  clear h
  unfold findV
  cases hi : atR es a 1 with
  | none =>
    rw [hi] at HC
    simp only [atV] at HC
    go_enter Try.func28, Try.ntmps28
    go_wp2_with fail
    refine HC.out.mono ?_
    rintro e w1 ⟨rfl, rfl⟩
    go_wp2
    go_ret3
    exact ⟨rfl, rfl⟩
  | some v =>
    obtain ⟨e, d⟩ := v
    rw [hi] at HC
    simp only [atV] at HC
    obtain ⟨⟨i, hie⟩, -⟩ := atR_mem hi
    obtain ⟨cb, sv, r0, r1, r2, r3, r4, hcb, hsv⟩ := (H.out.regs i e hie).cells
    clear r1 r2 r3 r4 hsv
    go_enter Try.func28, Try.ntmps28
    go_wp2_with fail
    refine HC.out.mono ?_
    rintro e w1 ⟨rfl, rfl⟩
    go_wp2
    go_ret3
    exact ⟨rfl, rfl⟩
end
end Go.Proofs.Ytpjgaacdohiomaa.Mem2
