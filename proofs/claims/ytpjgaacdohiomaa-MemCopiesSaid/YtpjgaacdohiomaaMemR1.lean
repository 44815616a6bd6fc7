/- mem.Memory: Poke, walked by hand. The document's memory (posternref01.Memory) in memory: its regions, what keeps them. The document's memory: Of, Count, Has, walked by hand. The document's memory: Read, walked by hand. The document's memory: Lay, walked by hand. The document's memory: Write, Poke, Kill, walked by hand. -/
import Derived.Test.YtpjgaacdohiomaaMemQ
import Derived.Laws.IdiomCopy
import Derived.Laws.AppendOwn
namespace Go.Proofs.Ytpjgaacdohiomaa.MemP
open Go.RowKit Go.Proofs.Ytpjgaacdohiomaa.PMemCopies Go.Proofs.YtpjgaacdohiomaaW.PrintWords Go.Proofs.YtpjgaacdohiomaaW.PrintLast Go.Proofs.YtpjgaacdohiomaaW.PrintMore Go.Proofs.Ytpjgaacdohiomaa.Mw Go.Proofs.Ytpjgaacdohiomaa.Mem1 Go.Proofs.Ytpjgaacdohiomaa.Mem2 Go.Proofs.Ytpjgaacdohiomaa.Mem3 Go.Proofs.Ytpjgaacdohiomaa.Mem4 Go.Proofs.Ytpjgaacdohiomaa.Mem5 Go.Proofs.Ytpjgaacdohiomaa.Mem6 Go.Proofs.Ytpjgaacdohiomaa.MemA Go.Proofs.Ytpjgaacdohiomaa.MemB Go.Proofs.Ytpjgaacdohiomaa.Mem8 Go.Proofs.Ytpjgaacdohiomaa.Mem9 Go.Proofs.Ytpjgaacdohiomaa.MemN Go.Proofs.Ytpjgaacdohiomaa.MemC Go.Proofs.Ytpjgaacdohiomaa.MemD Go.Proofs.Ytpjgaacdohiomaa.MemE Go.Proofs.Ytpjgaacdohiomaa.MemQ
set_option linter.unusedVariables false
set_option linter.unusedSimpArgs false
theorem size5 : (Try.prog.info? 5).map (·.size) = some 1 := by
  obtain ⟨i, hi, _, hs, _⟩ := info_parts info5
  rw [hi]
  exact congrArg some hs
set_option maxRecDepth 4000 in
theorem lay_zero {w : World} {F : Nat → Prop} {e : Ent} (h : RegAt w F e) (i : Nat) (ao : Option Addr) (c : Nat) (hfit : i ≤ e.r.bytes.length) :
    Calls Try.prog 49 #[.pointer (some ⟨e.b, 0, none⟩), .int .i64 (i : Int), .slice ao 0 c] w fun x w' => x = .returned (.tuple #[]) ∧ w = w' := by
  obtain ⟨cb, sv, r0, r1, r2, r3, r4, hcb, hsv⟩ := h.cells
  have hlen := h.ok.len
  have hi0 : (0 : Int) ≤ (i : Int) := by omega
  have hi1 : (i : Int) ≤ (e.r.bytes.length : Int) := by omega
  have hrun := fun (W : World) (d : Option Addr) (l k : Nat) => run_copy_none (P := Try.prog) W 36 36 3 5 d ao l k 0 c Try.underlying36 size5 (Nat.zero_min l)
  have hw1 : wrap64 ((i : Int)) = (i : Int) := by unfold wrap64; omega
  cases hset : e.r.set with
  | none =>
    rw [hset] at hsv
    obtain rfl : sv = .slice none 0 0 := hsv
    have hq := fun W => run_neq_slice_nil_any (P := Try.prog) W 37 4 none 0 0 0 0 Try.underlying37
    clear h r0 r1 r2 hset
    by_cases hi2 : cb = i
    · go_enter Try.func49, Try.ntmps49
      go_wp2
      go_loop [6] (fun v => v = .int .i64 (i : Int)) (fun _ => 0)
      case atStart => rfl
      case round =>
        obtain rfl := hrel
        go_wp2
        go_end0
        exact ⟨rfl, rfl⟩
    · go_enter Try.func49, Try.ntmps49
      go_wp2
      go_loop [6] (fun v => v = .int .i64 (i : Int)) (fun _ => 0)
      case atStart => rfl
      case round =>
        obtain rfl := hrel
        go_wp2
        go_end0
        exact ⟨rfl, rfl⟩
  | some s =>
    rw [hset] at hsv
    obtain ⟨hsl, hsF, ⟨cs, rfl, hcs⟩, hsr⟩ := hsv
    have hq := fun W => run_neq_slice_nil_any (P := Try.prog) W 37 4 (some ⟨e.gs, 0, none⟩) e.r.bytes.length cs 0 0 Try.underlying37
    clear h r0 r1 r2 hset hsF hsr hsl
    by_cases hi2 : cb = i
    · go_enter Try.func49, Try.ntmps49
      go_wp2
      go_loop [6] (fun v => v = .int .i64 (i : Int)) (fun _ => 0)
      case atStart => rfl
      case round =>
        obtain rfl := hrel
        go_wp2
        go_end0
        exact ⟨rfl, rfl⟩
    · go_enter Try.func49, Try.ntmps49
      go_wp2
      go_loop [6] (fun v => v = .int .i64 (i : Int)) (fun _ => 0)
      case atStart => rfl
      case round =>
        obtain rfl := hrel
        go_wp2
        go_end0
        exact ⟨rfl, rfl⟩
section
variable {w w' : World} {F : Nat → Prop} {g : Nat} {rs : List Rg} {nx : Int}
theorem Poke_none {es : List Ent} (h : MIx w F g es nx) (id a : Int) (v : Value) (hi : idE es id = none) :
    Calls Try.prog 29 #[.pointer (some ⟨g, 0, none⟩), .int .i64 id, .int .i64 a, v] w fun x w' => x = .returned (.int .i64 14) ∧ w = w' := by
  have HC := Lib.hid (region_ h id)
  rw [hi] at HC
  simp only [ptrO] at HC
  clear h hi
  go_enter Try.func29, Try.ntmps29
  go_wp2_with fail
  refine HC.out.mono ?_
  rintro e w1 ⟨rfl, rfl⟩
  go_wp2
  go_ret
  exact ⟨rfl, rfl⟩
theorem Poke_arg {es : List Ent} (h : MIx w F g es nx) (id a : Int) (ao : Option Addr) (n c : Nat) (e : Ent) (i : Nat) (he : es[i]? = some e) (hi : idE es id = some e) (hn : n ≤ 9223372036854775807) (ha : -9223372036854775808 ≤ a ∧ a ≤ 9223372036854775807) (hbad : ¬ (0 ≤ a ∧ a + n ≤ e.r.bytes.length)) :
    Calls Try.prog 29 #[.pointer (some ⟨g, 0, none⟩), .int .i64 id, .int .i64 a, .slice ao n c] w fun x w' => x = .returned (.int .i64 2) ∧ w = w' := by
  have HC := Lib.hid (region_ h id)
  rw [hi] at HC
  simp only [ptrO] at HC
  have hR := h.regs i e he
  obtain ⟨cb, sv, r0, r1, r2, r3, r4, hcb, hsv⟩ := hR.cells
  have hlen := hR.ok.len
  obtain ⟨B, hB⟩ : ∃ B : Int, B = (e.r.bytes.length : Int) := ⟨_, rfl⟩
  obtain ⟨N, hN⟩ : ∃ N : Int, N = (n : Int) := ⟨_, rfl⟩
  clear h hi he hR r0 r1 r2 r4 hsv
  by_cases c1 : a < 0
  · go_enter Try.func29, Try.ntmps29
    go_wp2_with fail
    refine HC.out.mono ?_
    rintro e w1 ⟨rfl, rfl⟩
    go_wp2
    go_ret
    exact ⟨rfl, rfl⟩
  by_cases c2 : (e.r.bytes.length : Int) < a
  · go_enter Try.func29, Try.ntmps29
    go_wp2_with fail
    refine HC.out.mono ?_
    rintro e w1 ⟨rfl, rfl⟩
    go_wp2
    go_ret
    exact ⟨rfl, rfl⟩
  have hw : wrap64 ((e.r.bytes.length : Int) - a) = (e.r.bytes.length : Int) - a := by unfold wrap64; omega
  have c3 : (e.r.bytes.length : Int) - a < (n : Int) := by omega
  clear hbad
  go_enter Try.func29, Try.ntmps29
  go_wp2_with fail
  refine HC.out.mono ?_
  rintro e w1 ⟨rfl, rfl⟩
  go_wp2
  go_ret
  exact ⟨rfl, rfl⟩
theorem Poke_ok {es : List Ent} (h : MIx w F g es nx) (id : Int) (a : Nat) (ao : Option Addr) (n c : Nat) (e : Ent) (i : Nat) (he : es[i]? = some e) (hi : idE es id = some e) (hok : a + n ≤ e.r.bytes.length) {T : World → Prop}
    (hL : Calls Try.prog 49 #[.pointer (some ⟨e.b, 0, none⟩), .int .i64 (a : Int), .slice ao n c] w fun x w' => x = .returned (.tuple #[]) ∧ T w') :
    Calls Try.prog 29 #[.pointer (some ⟨g, 0, none⟩), .int .i64 id, .int .i64 (a : Int), .slice ao n c] w fun x w' => x = .returned (.int .i64 0) ∧ T w' := by
  have HC := Lib.hid (region_ h id)
  rw [hi] at HC
  simp only [ptrO] at HC
  have hR := h.regs i e he
  obtain ⟨cb, sv, r0, r1, r2, r3, r4, hcb, hsv⟩ := hR.cells
  have hlen := hR.ok.len
  have HL := Lib.hid hL
  clear h hi he hR r0 r1 r2 r4 hsv hL
  have c1 : ¬ (a : Int) < 0 := by omega
  have c2 : ¬ (e.r.bytes.length : Int) < (a : Int) := by omega
  have hw : wrap64 ((e.r.bytes.length : Int) - a) = (e.r.bytes.length : Int) - a := by unfold wrap64; omega
  have c3 : ¬ (e.r.bytes.length : Int) - a < (n : Int) := by omega
  go_enter Try.func29, Try.ntmps29
  go_wp2_with fail
  refine HC.out.mono ?_
  rintro x w1 ⟨rfl, rfl⟩
  go_wp2_with fail
  refine HL.out.mono ?_
  rintro x w1 ⟨rfl, hD⟩
  have HD := Lib.hid hD
  clear hD HL HC
  go_wp2
  go_ret
  exact ⟨rfl, HD.out⟩
def pokeQ (rs : List Rg) (id a : Int) (xs : List Int) : Int × List Rg :=
  match idQ rs id with
  | none => (14, rs)
  | some r => if 0 ≤ a ∧ a + xs.length ≤ r.bytes.length then (0, rs.set (rs.findIdx (isIdQ id)) (layR r a.toNat xs)) else (2, rs)
theorem layR_nil (r : Rg) (i : Nat) : layR r i [] = r := by
  cases r with
  | mk a b c d s =>
    cases s with
    | none => simp [layR, over_nil]
    | some s => simp [layR, over_nil]
theorem q_poke (h : MQ w F g rs nx) (id a : Int) (ha : -9223372036854775808 ≤ a ∧ a ≤ 9223372036854775807) (ao : Option Addr) (xs : List Int) (c : Nat) (hC : Kd.C (Kd.int .u8) w ao xs.length xs) (hxc : xs.length ≤ c) (hbs : Bs xs) :
    Calls Try.prog 29 #[.pointer (some ⟨g, 0, none⟩), .int .i64 id, .int .i64 a, .slice ao xs.length c] w fun x w' => x = .returned (.int .i64 (pokeQ rs id a xs).1) ∧ MQ w' F g (pokeQ rs id a xs).2 nx ∧ Step w w' F F := by
  obtain ⟨es, rfl, h⟩ := h
  unfold pokeQ
  rw [← MemQ.id_eq]
  cases hi : idE es id with
  | none =>
    exact (Poke_none h id a _ hi).mono fun x w' ⟨e1, e2⟩ => ⟨e1, e2 ▸ ⟨es, rfl, h⟩, e2 ▸ Step.refl _ _⟩
  | some e =>
    simp only [Option.map_some]
    have hfx : (es.map (·.r)).findIdx (isIdQ id) = es.findIdx (isId id) := by rw [List.findIdx_map]; rfl
    obtain ⟨hp, i, hil, he, hm⟩ := List.find?_eq_some_iff_getElem.1 hi
    have hfi : es.findIdx (isId id) = i := (List.findIdx_eq hil).2 ⟨by rw [he]; exact hp, fun j hj => by simpa using hm j hj⟩
    have he' : es[i]? = some e := by rw [List.getElem?_eq_getElem hil, he]
    rw [hfx, hfi]
    by_cases hok : 0 ≤ a ∧ a + xs.length ≤ e.r.bytes.length
    · rw [if_pos hok]
      obtain ⟨an, rfl⟩ := Int.eq_ofNat_of_zero_le hok.1
      rw [Int.toNat_natCast]
      have hfit : an + xs.length ≤ e.r.bytes.length := by omega
      by_cases hx : 0 < xs.length
      · obtain ⟨ad, rfl, -⟩ := hC.2.2 hx
        have hR := h.regs i e he'
        refine (Poke_ok h id an (some ad) xs.length c e i he' hi hfit (lay_ hR an ad c xs hC hfit hx hxc)).mono fun x w' ⟨e1, e2⟩ => ?_
        obtain ⟨k1, k2⟩ := MIx.lay h he' hfit hbs e2
        exact ⟨e1, ⟨_, by rw [List.map_set]; rfl, k1⟩, k2⟩
      · obtain rfl : xs = [] := List.length_eq_zero_iff.1 (by omega)
        have hR := h.regs i e he'
        refine (Poke_ok h id an ao 0 c e i he' hi (by simpa using hfit) (lay_zero hR an ao c (by simpa using hfit))).mono fun x w' ⟨e1, e2⟩ => ?_
        subst e2
        rw [layR_nil]
        refine ⟨e1, ⟨es, ?_, h⟩, Step.refl _ _⟩
        show es.map (·.r) = (es.map (·.r)).set i e.r
        apply List.ext_getElem?
        intro j
        rw [List.getElem?_set]
        by_cases hij : i = j
        · subst hij; rw [if_pos rfl, if_pos (by simpa using hil), List.getElem?_map, he']; rfl
        · rw [if_neg hij]
    · rw [if_neg hok]
      exact (Poke_arg h id a ao xs.length c e i he' hi hC.2.1 ha hok).mono fun x w' ⟨e1, e2⟩ => ⟨e1, e2 ▸ ⟨es, rfl, h⟩, e2 ▸ Step.refl _ _⟩
end
end Go.Proofs.Ytpjgaacdohiomaa.MemP
namespace Go.Proofs.Ytpjgaacdohiomaa.MemRA
open Go.RowKit Go.Proofs.Ytpjgaacdohiomaa.PMemCopies Go.Proofs.YtpjgaacdohiomaaW.PrintWords Go.Proofs.YtpjgaacdohiomaaW.PrintLast Go.Proofs.YtpjgaacdohiomaaW.PrintMore Go.Proofs.Ytpjgaacdohiomaa.Mw Go.Proofs.Ytpjgaacdohiomaa.Mem1
set_option linter.unusedVariables false
set_option linter.unusedSimpArgs false
/-- A region of the document's, as it is. -/
structure DR where
  live : Bool
  base : Int
  perm : Int
  bytes : List Int
  set : List Bool
/-- A region and its blocks. -/
structure DE where
  gb : Nat
  gs : Nat
  cb : Nat
  cs : Nat
  r : DR
structure DR.Ok (r : DR) : Prop where
  len : 0 < r.bytes.length ∧ r.bytes.length ≤ 65536
  slen : r.set.length = r.bytes.length
  base : 0 ≤ r.base ∧ r.base + r.bytes.length ≤ 18446744073709551616
  perm : 0 ≤ r.perm ∧ r.perm ≤ 7
  bs : Bs r.bytes
def cells5 (e : DE) : List Value := [.bool e.r.live, .int .u64 e.r.base, .int .i64 e.r.perm, .slice (some ⟨e.gb, 0, none⟩) e.r.bytes.length e.cb, .slice (some ⟨e.gs, 0, none⟩) e.r.bytes.length e.cs]
structure DAt (w : World) (F : Nat → Prop) (e : DE) : Prop where
  row : Row w e.gb 5 (e.r.bytes.map (Value.int .u8))
  srow : Row w e.gs 4 (e.r.set.map Value.bool)
  inF : F e.gb ∧ F e.gs
  caps : e.r.bytes.length ≤ e.cb ∧ e.r.bytes.length ≤ e.cs
  ok : e.r.Ok
/-- The slice of them all. -/
def AllV (w : World) (F : Nat → Prop) (v : Value) (ds : List DE) : Prop := w.ownsRow 0 59 5 v ds.length (ds.flatMap cells5) ∧ ∀ k, v.ownBlock = some k → F k
structure DIx (w : World) (F : Nat → Prop) (g : Nat) (ds : List DE) : Prop where
  self : ∃ v, w.heap[g]? = some (.cells #[v] 52 (0, 0)) ∧ AllV w F v ds
  regs : ∀ (i : Nat) (e : DE), ds[i]? = some e → DAt w F e
  apart : ∀ (i j : Nat) (e e' : DE), ds[i]? = some e → ds[j]? = some e' → i ≠ j → e.gb ≠ e'.gb ∧ e.gs ≠ e'.gs
  inF : F g
  lt : ∀ b, F b → b < w.heap.size
  len : ds.length ≤ 100000
section
variable {w w' : World} {F F' : Nat → Prop} {g : Nat} {ds : List DE}
theorem DAt.keep {e : DE} (h : DAt w F e) (hk : ∀ b, F b → w'.heap[b]? = w.heap[b]?) (hF : ∀ b, F b → F' b) : DAt w' F' e :=
  ⟨h.row.keep (hk _ h.inF.1), h.srow.keep (hk _ h.inF.2), ⟨hF _ h.inF.1, hF _ h.inF.2⟩, h.caps, h.ok⟩
theorem AllV.keep {v : Value} (h : AllV w F v ds) (hk : ∀ b, F b → w'.heap[b]? = w.heap[b]?) (hF : ∀ b, F b → F' b) : AllV w' F' v ds :=
  ⟨own_move h.1 (fun k hk' => hk k (h.2 k hk')), fun k hk' => hF k (h.2 k hk')⟩
theorem DIx.keepF (h : DIx w F g ds) (hk : ∀ b, F b → w'.heap[b]? = w.heap[b]?) (hF : ∀ b, F b → F' b) (hl : ∀ b, F' b → b < w'.heap.size) : DIx w' F' g ds := by
  obtain ⟨v, h1, h2⟩ := h.self
  exact ⟨⟨v, (hk g h.inF).trans h1, h2.keep hk hF⟩, fun i e he => (h.regs i e he).keep hk hF, h.apart, hF g h.inF, hl, h.len⟩
theorem DIx.keep (h : DIx w F g ds) (hk : ∀ b, F b → w'.heap[b]? = w.heap[b]?) (hs : w.heap.size ≤ w'.heap.size) : DIx w' F g ds :=
  h.keepF hk (fun _ h => h) (fun b hb => Nat.lt_of_lt_of_le (h.lt b hb) hs)
theorem DIx.step {G G' : Nat → Prop} (h : DIx w F g ds) (hs : Step w w' G G') (ha : ∀ b, F b → ¬ G b) : DIx w' F g ds :=
  h.keep (fun b hb => hs.block b (h.lt b hb) (ha b hb)) hs.size
theorem DIx.drewN (h : DIx w F g ds) (n : Nat) : DIx (w.drewN n) F g ds := h.keep (fun _ _ => rfl) (Nat.le_refl _)
theorem DIx.below (h : DIx w F g ds) (hb : Below w.heap.size w w') : DIx w' F g ds := h.keep (fun b hF => hb.block b (h.lt b hF)) hb.size
theorem flat_get {α β : Type} (f : α → List β) (n : Nat) (hf : ∀ a, (f a).length = n) : ∀ (l : List α) (k j : Nat) (a : α), l[k]? = some a → j < n → (l.flatMap f)[k * n + j]? = (f a)[j]?
  | [], k, j, a, h, _ => by simp at h
  | x :: l, 0, j, a, h, hj => by
    simp at h; subst h
    rw [List.flatMap_cons, Nat.zero_mul, Nat.zero_add, List.getElem?_append_left (by rw [hf]; exact hj)]
  | x :: l, k + 1, j, a, h, hj => by
    simp at h
    have := flat_get f n hf l k j a h hj
    rw [List.flatMap_cons, List.getElem?_append_right (by rw [hf, Nat.add_mul]; omega), hf, show (k + 1) * n + j - n = k * n + j by rw [Nat.add_mul]; omega]
    exact this
theorem cells5_len (e : DE) : (cells5 e).length = 5 := rfl
/-- What the memory's own slot holds. -/
theorem DIx.slot (h : DIx w F g ds) : ∃ (ao : Option Addr) (bl cap : Nat), w.cell? ⟨g, 0, none⟩ = some (.slice ao ds.length cap) ∧ w.frozen? ⟨g, 0, none⟩ = false ∧ ds.length ≤ cap ∧ cap ≤ maxLen ∧ (ds.length > 0 → ao = some ⟨bl, 0, none⟩ ∧ F bl) ∧
    (∀ (k : Nat) (e : DE), ds[k]? = some e → ∀ (j : Nat) (u : Value), (cells5 e)[j]? = some u → w.cell? ⟨bl, k * 5 + j, none⟩ = some u ∧ w.frozen? ⟨bl, k * 5 + j, none⟩ = false) ∧ AllV w F (.slice ao ds.length cap) ds := by
  obtain ⟨v, h1, h2⟩ := h.self
  rcases h2.1.2 with ⟨rfl, h0⟩ | ⟨bl, cap, cur, rfl, -, hb, hc, hm, hs, ht⟩
  · refine ⟨none, 0, 0, by rw [h0]; exact (blk_cell h1 0).trans rfl, blk_frozen h1 0, by omega, Nat.zero_le _, fun h => by omega, fun k e he => ?_, by rw [h0]; exact h2⟩
    have := (List.getElem?_eq_some_iff.1 he).1
    omega
  · refine ⟨some ⟨bl, 0, none⟩, bl, cap, (blk_cell h1 0).trans rfl, blk_frozen h1 0, hc, hm, fun _ => ⟨rfl, h2.2 bl rfl⟩, fun k e he j u hj => ?_, h2⟩
    have hj5 : j < 5 := (List.getElem?_eq_some_iff.1 hj).1
    have hg := flat_get cells5 5 cells5_len ds k j e he hj5
    rw [← ht, hj, List.getElem?_take] at hg
    split at hg
    · refine ⟨(blk_cell hb _).trans ?_, blk_frozen hb _⟩
      rw [← Array.getElem?_toList]; exact hg
    · cases hg
theorem DIx.at_ (h : DIx w F g ds) : ∃ (ao : Option Addr) (bl cap : Nat), w.cell? ⟨g, 0, none⟩ = some (.slice ao ds.length cap) ∧ ds.length ≤ cap ∧ cap ≤ maxLen ∧ ∀ (k : Nat) (e : DE), ds[k]? = some e → ao = some ⟨bl, 0, none⟩ ∧ w.cell? ⟨bl, k * 5, none⟩ = some (.bool e.r.live) ∧ w.cell? ⟨bl, k * 5 + 1, none⟩ = some (.int .u64 e.r.base) ∧ w.cell? ⟨bl, k * 5 + 2, none⟩ = some (.int .i64 e.r.perm) ∧ w.cell? ⟨bl, k * 5 + 3, none⟩ = some (.slice (some ⟨e.gb, 0, none⟩) e.r.bytes.length e.cb) ∧ w.cell? ⟨bl, k * 5 + 4, none⟩ = some (.slice (some ⟨e.gs, 0, none⟩) e.r.bytes.length e.cs) ∧ w.frozen? ⟨bl, k * 5, none⟩ = false := by
  obtain ⟨ao, bl, cap, h1, h2, h3, h4, h5, h6, h7⟩ := h.slot
  refine ⟨ao, bl, cap, h1, h3, h4, fun k e he => ?_⟩
  have hk := (List.getElem?_eq_some_iff.1 he).1
  have h6 := h6 k e he
  exact ⟨(h5 (by omega)).1, (h6 0 _ rfl).1, (h6 1 _ rfl).1, (h6 2 _ rfl).1, (h6 3 _ rfl).1, (h6 4 _ rfl).1, (h6 0 _ rfl).2⟩
end
end Go.Proofs.Ytpjgaacdohiomaa.MemRA
namespace Go.Proofs.Ytpjgaacdohiomaa.MemRB
open Go.RowKit Go.Proofs.Ytpjgaacdohiomaa.PMemCopies Go.Proofs.YtpjgaacdohiomaaW.PrintWords Go.Proofs.YtpjgaacdohiomaaW.PrintLast Go.Proofs.YtpjgaacdohiomaaW.PrintMore Go.Proofs.Ytpjgaacdohiomaa.Mw Go.Proofs.Ytpjgaacdohiomaa.Mem1 Go.Proofs.Ytpjgaacdohiomaa.MemRA
set_option linter.unusedVariables false
set_option linter.unusedSimpArgs false
def inD (a : Int) (r : DR) : Bool := r.live && decide (r.base ≤ a) && decide (a - r.base < r.bytes.length)
/-- The live region of an address. -/
def ofD (ds : List DR) (a : Int) : Option Nat := let i := ds.findIdx (inD a); if i < ds.length then some i else none
def ofV (ds : List DR) (a : Int) : Value := match ds[ds.findIdx (inD a)]? with
  | some r => .tuple #[.int .i64 (ds.findIdx (inD a) : Nat), .int .i64 (a - r.base)]
  | none => .tuple #[.int .i64 (-1), .int .i64 0]
theorem idx_hit {α : Type} {p : α → Bool} {l : List α} {k : Nat} {e : α} (he : l[k]? = some e) (hp : p e = true) (hm : ∀ j, j < k → ∀ e', l[j]? = some e' → p e' = false) : l.findIdx p = k := by
  obtain ⟨hk, rfl⟩ := List.getElem?_eq_some_iff.1 he
  exact (List.findIdx_eq hk).2 ⟨hp, fun j hj => hm j hj _ (List.getElem?_eq_getElem (by omega))⟩
theorem idx_miss {α : Type} {p : α → Bool} {l : List α} (hm : ∀ j, j < l.length → ∀ e', l[j]? = some e' → p e' = false) : l.findIdx p = l.length :=
  List.findIdx_eq_length.2 (fun x hx => by obtain ⟨i, hi, rfl⟩ := List.mem_iff_getElem.1 hx; exact hm i hi _ (List.getElem?_eq_getElem hi))
theorem miss_more {α : Type} {p : α → Bool} {l : List α} {k : Nat} {e : α} (he : l[k]? = some e) (hp : p e = false) (hm : ∀ j, j < k → ∀ e', l[j]? = some e' → p e' = false) : ∀ j, j < k + 1 → ∀ e', l[j]? = some e' → p e' = false := fun j hj e' he' => by
  by_cases h : j < k
  · exact hm j h e' he'
  · obtain rfl : j = k := by omega
    rw [he] at he'
    cases he'
    exact hp
section
variable {w : World} {F : Nat → Prop} {g : Nat} {ds : List DE}
/-- The cells of a region, in a later world. -/
theorem DIx.later (h : DIx w F g ds) {w' : World} (hb : Below w.heap.size w w') : ∃ (ao : Option Addr) (bl cap : Nat), w.cell? ⟨g, 0, none⟩ = some (.slice ao ds.length cap) ∧ ds.length ≤ cap := by
  obtain ⟨ao, bl, cap, g0, hc, hcm, hA⟩ := h.at_
  exact ⟨ao, bl, cap, g0, hc⟩
set_option maxHeartbeats 4000000 in
theorem Of_ (h : DIx w F g ds) (a : Int) (ha : 0 ≤ a ∧ a < 18446744073709551616) :
    Calls Try.prog 55 #[.pointer (some ⟨g, 0, none⟩), .int .u64 a] w fun e w' => e = .returned (ofV (ds.map (·.r)) a) ∧ Below w.heap.size w w' := by
  obtain ⟨ao, bl, cap, g0, hc, hcm, hA⟩ := h.at_
  have hlen := h.len
  have HA := Lib.hid hA
  have H := Lib.hid h
  obtain ⟨nn, hnn⟩ : ∃ nn, nn = ds.length := ⟨_, rfl⟩
  have HN := Lib.hid hnn
  rw [← hnn] at g0 hc hlen
  clear h hA hnn
  go_enter Try.func55, Try.ntmps55
  go_wp2
  go_loopw [14] (fun i wr => ∃ k : Nat, k ≤ nn ∧ i = .int .i64 (k : Int) ∧ Hid (∀ j, j < k → ∀ e', (ds.map (·.r))[j]? = some e' → inD a e' = false) ∧ Hid (Below w.heap.size w wr)) (fun i _ => nn - (intOf i).toNat)
  case atStart => exact ⟨0, Nat.zero_le _, rfl, Lib.hid (fun j hj => by omega), Lib.hid (Below.refl _ _)⟩
  case round =>
    obtain ⟨k, hk, rfl, HS, HB⟩ := hrel
    by_cases hlt : k < nn
    · obtain ⟨e, hi⟩ : ∃ e, ds[k]? = some e := ⟨_, List.getElem?_eq_getElem (by rw [← HN.out]; exact hlt)⟩
      obtain ⟨rfl, r0, r1, r2, r3, r4, -⟩ := HA.out k e hi
      have hir : (ds.map (·.r))[k]? = some e.r := by rw [List.getElem?_map, hi]; rfl
      have r0 := Mem3.old HB.out r0
      have r1 := Mem3.old HB.out r1
      have r2 := Mem3.old HB.out r2
      have r3 := Mem3.old HB.out r3
      have r4 := Mem3.old HB.out r4
      have hok := (H.out.regs k e hi).ok
      have hlen2 := hok.len
      have hbase := hok.base
      have HI := Lib.hid hir
      clear hir hi hok
      have hmiss : inD a e.r = false → (∃ k' : Nat, k' ≤ nn ∧ Value.int .i64 ((k : Int) + 1) = .int .i64 (k' : Int) ∧ Hid (∀ j, j < k' → ∀ e', (ds.map (·.r))[j]? = some e' → inD a e' = false) ∧ Hid (Below w.heap.size w (wr.alloc (.cells #[.bool e.r.live, .int .u64 e.r.base, .int .i64 e.r.perm, .slice (some ⟨e.gb, 0, none⟩) e.r.bytes.length e.cb, .slice (some ⟨e.gs, 0, none⟩) e.r.bytes.length e.cs] 59)))) ∧ nn - (intOf (.int .i64 ((k : Int) + 1))).toNat < nn - (intOf (.int .i64 (k : Int))).toNat :=
        fun hm => ⟨⟨k + 1, by omega, by go_num, Lib.hid (miss_more HI.out hm HS.out), Lib.hid (below_alloc HB.out _)⟩, by simp [intOf]; omega⟩
      have HM := Lib.hid hmiss
      clear hmiss
      cases hl : e.r.live with
      | false =>
        rw [hl] at r0 HM
        have HM2 := Lib.hid (HM.out (by unfold inD; rw [hl]; rfl))
        clear HM hl
        go_wp2
        case roundEnd => exact HM2.out
      | true =>
        rw [hl] at r0 HM
        by_cases c1 : a < e.r.base
        · have HM2 := Lib.hid (HM.out (by unfold inD; rw [hl, decide_eq_false (by omega : ¬ e.r.base ≤ a)]; rfl))
          clear HM hl
          go_wp2
          case roundEnd => exact HM2.out
        · have hw1 : IntKind.u64.wrap (a - e.r.base) = a - e.r.base := by rw [IntKind.wrap_u64]; omega
          have hw2 : IntKind.u64.wrap (e.r.bytes.length : Int) = (e.r.bytes.length : Int) := by rw [IntKind.wrap_u64]; omega
          by_cases c2 : a - e.r.base < (e.r.bytes.length : Int)
          · have hw3 : wrap64 (a - e.r.base) = a - e.r.base := by unfold wrap64; omega
            have hw4 : IntKind.i64.wrap (a - e.r.base) = a - e.r.base := by rw [IntKind.wrap_i64]; omega
            have HV : Hid (ofV (ds.map (·.r)) a = .tuple #[.int .i64 (k : Int), .int .i64 (a - e.r.base)]) := Lib.hid (by
              have := idx_hit HI.out (p := inD a) (by unfold inD; rw [hl, decide_eq_true (by omega : e.r.base ≤ a), decide_eq_true c2]; rfl) HS.out
              unfold ofV
              rw [this, HI.out])
            clear HM hl
            go_wp2
            go_ret2
            exact ⟨congrArg Ending.returned HV.out.symm, below_alloc HB.out _⟩
          · have HM2 := Lib.hid (HM.out (by unfold inD; rw [hl, decide_eq_false c2, Bool.and_false]))
            clear HM hl
            go_wp2
            case roundEnd => exact HM2.out
    · have HV : Hid (ofV (ds.map (·.r)) a = .tuple #[.int .i64 (-1), .int .i64 0]) := Lib.hid (by
        have := idx_miss (l := ds.map (·.r)) (p := inD a) (fun j hj => HS.out j (by rw [List.length_map] at hj; have := HN.out; omega))
        unfold ofV
        rw [this, List.getElem?_eq_none (Nat.le_refl _)])
      go_wp2
      go_ret2
      exact ⟨congrArg Ending.returned HV.out.symm, HB.out⟩
def countD (ds : List DR) : Nat := ds.countP (·.live)
set_option maxHeartbeats 4000000 in
theorem RCount_ (h : DIx w F g ds) :
    Calls Try.prog 24 #[.pointer (some ⟨g, 0, none⟩)] w fun e w' => e = .returned (.int .i64 (countD (ds.map (·.r)) : Int)) ∧ Below w.heap.size w w' := by
  obtain ⟨ao, bl, cap, g0, hc, hcm, hA⟩ := h.at_
  have hlen := h.len
  have HA := Lib.hid hA
  have H := Lib.hid h
  obtain ⟨nn, hnn⟩ : ∃ nn, nn = ds.length := ⟨_, rfl⟩
  have HN := Lib.hid hnn
  rw [← hnn] at g0 hc hlen
  clear h hA hnn
  go_enter Try.func24, Try.ntmps24
  go_wp2
  go_loopw [3, 11] (fun v i wr => ∃ (k : Nat) (c : Int), k ≤ nn ∧ i = .int .i64 (k : Int) ∧ v = .int .i64 c ∧ 0 ≤ c ∧ c ≤ (k : Int) ∧ Hid (c = (countD ((ds.map (·.r)).take k) : Int)) ∧ Hid (Below w.heap.size w wr)) (fun _ i _ => nn - (intOf i).toNat)
  case atStart => exact ⟨0, 0, Nat.zero_le _, rfl, rfl, Int.le_refl _, Int.le_refl _, Lib.hid rfl, Lib.hid (Below.refl _ _)⟩
  case round =>
    obtain ⟨k, c, hk, rfl, rfl, hc0, hck, HS, HB⟩ := hrel
    by_cases hlt : k < nn
    · obtain ⟨e, hi⟩ : ∃ e, ds[k]? = some e := ⟨_, List.getElem?_eq_getElem (by rw [← HN.out]; exact hlt)⟩
      obtain ⟨rfl, r0, r1, r2, r3, r4, -⟩ := HA.out k e hi
      have r0 := Mem3.old HB.out r0
      have r1 := Mem3.old HB.out r1
      have r2 := Mem3.old HB.out r2
      have r3 := Mem3.old HB.out r3
      have r4 := Mem3.old HB.out r4
      have hcs : countD ((ds.map (·.r)).take (k + 1)) = countD ((ds.map (·.r)).take k) + if e.r.live = true then 1 else 0 := by
        unfold countD
        rw [List.take_add_one, List.countP_append, List.getElem?_map, hi]
        cases hl0 : e.r.live <;> simp [hl0]
      have hw1 : wrap64 (c + 1) = c + 1 := by unfold wrap64; omega
      cases hl : e.r.live with
      | false =>
        rw [hl] at r0 hcs
        have HS2 := Lib.hid (show c = (countD ((ds.map (·.r)).take (k + 1)) : Int) by rw [hcs, HS.out]; simp)
        clear hcs hi
        go_wp2
        case roundEnd => exact ⟨⟨k + 1, c, by omega, by go_num, rfl, hc0, by omega, HS2, Lib.hid (below_alloc HB.out _)⟩, by simp [intOf]; omega⟩
      | true =>
        rw [hl] at r0 hcs
        have HS2 := Lib.hid (show c + 1 = (countD ((ds.map (·.r)).take (k + 1)) : Int) by rw [hcs, HS.out]; simp)
        clear hcs hi
        go_wp2
        case roundEnd => exact ⟨⟨k + 1, c + 1, by omega, by go_num, rfl, by omega, by omega, HS2, Lib.hid (below_alloc HB.out _)⟩, by simp [intOf]; omega⟩
    · have HV : Hid ((countD (ds.map (·.r)) : Int) = c) := Lib.hid (by rw [HS.out, List.take_of_length_le (by rw [List.length_map, ← HN.out]; omega)])
      go_wp2
      go_ret
      exact ⟨congrArg (fun i => Ending.returned (.int .i64 i)) HV.out.symm, HB.out⟩
def hasD (ds : List DR) (id : Int) : Bool := decide (0 ≤ id) && (match ds[id.toNat]? with | some r => r.live | none => false)
theorem Has_ (h : DIx w F g ds) (id : Int) :
    Calls Try.prog 27 #[.pointer (some ⟨g, 0, none⟩), .int .i64 id] w fun e w' => e = .returned (.bool (hasD (ds.map (·.r)) id)) ∧ w = w' := by
  obtain ⟨ao, bl, cap, g0, hc, hcm, hA⟩ := h.at_
  have hlen := h.len
  obtain ⟨nn, hnn⟩ : ∃ nn, nn = ds.length := ⟨_, rfl⟩
  have HN := Lib.hid hnn
  rw [← hnn] at g0 hc hlen
  clear h hnn
  by_cases c1 : 0 ≤ id
  · obtain ⟨k, rfl⟩ := Int.eq_ofNat_of_zero_le c1
    by_cases c2 : k < nn
    · obtain ⟨e, hi⟩ : ∃ e, ds[k]? = some e := ⟨_, List.getElem?_eq_getElem (by rw [← HN.out]; exact c2)⟩
      obtain ⟨rfl, r0, r1, r2, r3, r4, -⟩ := hA k e hi
      have HV : Hid (hasD (ds.map (·.r)) (k : Int) = e.r.live) := Lib.hid (by unfold hasD; rw [decide_eq_true c1, Int.toNat_natCast, List.getElem?_map, hi]; rfl)
      have c3 : ((k : Int) < (nn : Int)) := by omega
      clear hA hi r1 r2 r3 r4
      go_enter Try.func27, Try.ntmps27
      go_wp2
      go_ret
      exact ⟨congrArg (fun b => Ending.returned (.bool b)) HV.out.symm, rfl⟩
    · have HV : Hid (hasD (ds.map (·.r)) (k : Int) = false) := Lib.hid (by unfold hasD; rw [Int.toNat_natCast, List.getElem?_eq_none (by rw [List.length_map, ← HN.out]; omega), Bool.and_false])
      have c3 : ¬ ((k : Int) < (nn : Int)) := by omega
      clear hA
      go_enter Try.func27, Try.ntmps27
      go_wp2
      go_ret
      exact ⟨congrArg (fun b => Ending.returned (.bool b)) HV.out.symm, rfl⟩
  · have HV : Hid (hasD (ds.map (·.r)) id = false) := Lib.hid (by unfold hasD; rw [decide_eq_false c1, Bool.false_and])
    clear hA
    go_enter Try.func27, Try.ntmps27
    go_wp2
    go_ret
    exact ⟨congrArg (fun b => Ending.returned (.bool b)) HV.out.symm, rfl⟩
end
end Go.Proofs.Ytpjgaacdohiomaa.MemRB
namespace Go.Proofs.Ytpjgaacdohiomaa.MemRC
open Go.RowKit Go.Proofs.Ytpjgaacdohiomaa.PMemCopies Go.Proofs.YtpjgaacdohiomaaW.PrintWords Go.Proofs.YtpjgaacdohiomaaW.PrintLast Go.Proofs.YtpjgaacdohiomaaW.PrintMore Go.Proofs.Ytpjgaacdohiomaa.Mw Go.Proofs.Ytpjgaacdohiomaa.Mem1 Go.Proofs.Ytpjgaacdohiomaa.Mem9 Go.Proofs.Ytpjgaacdohiomaa.MemRA Go.Proofs.Ytpjgaacdohiomaa.MemRB
set_option linter.unusedVariables false
set_option linter.unusedSimpArgs false
/-- The region of n bytes from an address on, and their place there. -/
def atD (ds : List DR) (a n : Int) : Option (Nat × DR × Int) :=
  match ds[ds.findIdx (inD a)]? with
  | some r => if n ≤ r.bytes.length - (a - r.base) then some (ds.findIdx (inD a), r, a - r.base) else none
  | none => none
def readD (ds : List DR) (a n : Int) : Int × List Int :=
  if n < 0 then (2, []) else if n = 0 then (0, []) else
  match atD ds a n with
  | none => (10, [])
  | some (k, r, d) => if r.perm % 2 = 0 then (10, []) else if allSet r.set d.toNat n.toNat = true then (0, (r.bytes.drop d.toNat).take n.toNat) else (11, [])
/-- What was found. -/
theorem idx_in {ds : List DR} {a : Int} {r : DR} (h : ds[ds.findIdx (inD a)]? = some r) : r.live = true ∧ r.base ≤ a ∧ a - r.base < r.bytes.length := by
  obtain ⟨hk, e⟩ := List.getElem?_eq_some_iff.1 h
  have := List.findIdx_getElem (xs := ds) (p := inD a) (w := hk)
  rw [e] at this
  unfold inD at this
  simp only [Bool.and_eq_true, decide_eq_true_eq] at this
  exact ⟨this.1.1, this.1.2, this.2⟩
/-- A value of bytes of the call's own. -/
def OV (w : World) (B : Nat) (v : Value) (l : List Int) : Prop := Kd.R (Kd.int .u8) 5 w B (fun _ => True) v l
section
variable {w : World} {F : Nat → Prop} {g : Nat} {ds : List DE}
theorem take_more {α : Type} {l : List α} {d t : Nat} {x : α} (h : l[d + t]? = some x) : (l.drop d).take t ++ [x] = (l.drop d).take (t + 1) := by
  rw [List.take_add_one, List.getElem?_drop, h]
  rfl
theorem RRead_neg (g : Nat) (a n : Int) (w : World) (hn : n < 0) :
    Calls Try.prog 52 #[.pointer (some ⟨g, 0, none⟩), .int .u64 a, .int .i64 n] w fun x w' => x = .returned (.tuple #[.slice none 0 0, .int .i64 2]) ∧ w = w' := by
  go_enter Try.func52, Try.ntmps52
  go_wp2
  go_ret2
  exact ⟨rfl, rfl⟩
theorem RRead_zero (g : Nat) (a : Int) (w : World) :
    Calls Try.prog 52 #[.pointer (some ⟨g, 0, none⟩), .int .u64 a, .int .i64 0] w fun x w' => x = .returned (.tuple #[.slice none 0 0, .int .i64 0]) ∧ w = w' := by
  go_enter Try.func52, Try.ntmps52
  go_wp2
  go_ret2
  exact ⟨rfl, rfl⟩
theorem RRead_none (h : DIx w F g ds) (a n : Int) (ha : 0 ≤ a ∧ a < 18446744073709551616) (hn : 1 ≤ n) (hm : (ds.map (·.r))[(ds.map (·.r)).findIdx (inD a)]? = none) :
    Calls Try.prog 52 #[.pointer (some ⟨g, 0, none⟩), .int .u64 a, .int .i64 n] w fun x w' => x = .returned (.tuple #[.slice none 0 0, .int .i64 10]) ∧ Below w.heap.size w w' := by
  have hO := Of_ h a ha
  unfold ofV at hO
  rw [hm] at hO
  have HO := Lib.hid hO
  have n1 : ¬ n < 0 := by omega
  have n2 : (n == 0) = false := by rw [beq_eq_false_iff_ne]; omega
  clear hO h hm hn
  go_enter Try.func52, Try.ntmps52
  go_wp2_with fail
  refine HO.out.mono ?_
  rintro e w1 ⟨rfl, hB⟩
  go_wp2
  go_ret2
  exact ⟨rfl, hB⟩
theorem Of_hit (h : DIx w F g ds) (a : Int) (ha : 0 ≤ a ∧ a < 18446744073709551616) (e : DE) (he : ds[(ds.map (·.r)).findIdx (inD a)]? = some e) :
    Calls Try.prog 55 #[.pointer (some ⟨g, 0, none⟩), .int .u64 a] w fun x w' => x = .returned (.tuple #[.int .i64 ((ds.map (·.r)).findIdx (inD a) : Nat), .int .i64 (a - e.r.base)]) ∧ Below w.heap.size w w' := by
  have hO := Of_ h a ha
  have her : (ds.map (·.r))[(ds.map (·.r)).findIdx (inD a)]? = some e.r := by rw [List.getElem?_map, he]; rfl
  unfold ofV at hO
  rw [her] at hO
  exact hO
theorem RRead_short (h : DIx w F g ds) (a n : Int) (ha : 0 ≤ a ∧ a < 18446744073709551616) (hn : 1 ≤ n) (e : DE) (he : ds[(ds.map (·.r)).findIdx (inD a)]? = some e) (hm : ¬ n ≤ e.r.bytes.length - (a - e.r.base) ∨ e.r.perm % 2 = 0) :
    Calls Try.prog 52 #[.pointer (some ⟨g, 0, none⟩), .int .u64 a, .int .i64 n] w fun x w' => x = .returned (.tuple #[.slice none 0 0, .int .i64 10]) ∧ Below w.heap.size w w' := by
  obtain ⟨ao, bl, cap, g0, hc, hcm, hA⟩ := h.at_
  have hlen := h.len
  have her : (ds.map (·.r))[(ds.map (·.r)).findIdx (inD a)]? = some e.r := by rw [List.getElem?_map, he]; rfl
  have hO := Of_hit h a ha e he
  obtain ⟨hl, h1, h2⟩ := idx_in her
  have hok := (h.regs _ e he).ok
  have hlen2 := hok.len
  have hperm := hok.perm
  generalize (ds.map (·.r)).findIdx (inD a) = k at *
  obtain ⟨nn, hnn⟩ : ∃ nn, nn = ds.length := ⟨_, rfl⟩
  have hk : k < nn := by rw [hnn]; exact (List.getElem?_eq_some_iff.1 he).1
  rw [← hnn] at g0 hc hlen
  obtain ⟨rfl, r0, r1, r2, r3, r4, -⟩ := hA k e he
  have HO := Lib.hid hO
  have n1 : ¬ n < 0 := by omega
  have n2 : (n == 0) = false := by rw [beq_eq_false_iff_ne]; omega
  obtain ⟨D, hD⟩ : ∃ D, D = a - e.r.base := ⟨_, rfl⟩
  rw [← hD] at HO hm h2
  have k0 : ¬ (k : Int) < 0 := by omega
  have hw1 : wrap64 ((e.r.bytes.length : Int) - D) = (e.r.bytes.length : Int) - D := by unfold wrap64; omega
  have hp : Int.tmod e.r.perm 2 = e.r.perm % 2 := Int.tmod_eq_emod_of_nonneg hperm.1
  have hp2 : wrap64 (e.r.perm % 2) = e.r.perm % 2 := by unfold wrap64; omega
  have HP := Lib.hid hperm
  clear hO h hn he her hok hA hnn hD hl hperm
  by_cases c1 : n ≤ (e.r.bytes.length : Int) - D
  · have c2 : e.r.perm % 2 = 0 := hm.resolve_left (fun h => h c1)
    have c3 : ((e.r.bytes.length : Int) - D < n) = False := by simp; omega
    clear hm
    go_enter Try.func52, Try.ntmps52
    go_wp2_with fail
    refine HO.out.mono ?_
    rintro e w1 ⟨rfl, hB⟩
    have g0 := Mem3.old hB g0
    have r0 := Mem3.old hB r0
    have r1 := Mem3.old hB r1
    have r2 := Mem3.old hB r2
    have r3 := Mem3.old hB r3
    go_wp2
    go_ret2
    exact ⟨rfl, hB⟩
  · clear hm
    go_enter Try.func52, Try.ntmps52
    go_wp2_with fail
    refine HO.out.mono ?_
    rintro e w1 ⟨rfl, hB⟩
    have g0 := Mem3.old hB g0
    have r0 := Mem3.old hB r0
    have r1 := Mem3.old hB r1
    have r2 := Mem3.old hB r2
    have r3 := Mem3.old hB r3
    go_wp2
    go_ret2
    exact ⟨rfl, hB⟩
theorem loop_facts {dn t m : Nat} {K N D E : Int} (hK : K = (dn : Int) + t) (hN : N = (m : Int)) (hD : D = (dn : Int)) (hE : E = D + N) (hl : dn + m ≤ 65536) (ht : t < m) : 0 ≤ K ∧ K < E ∧ K.toNat = dn + t ∧ wrap64 (K + 1) = K + 1 ∧ K + 1 = (dn : Int) + ((t + 1 : Nat) : Int) ∧ (K + 1).toNat = K.toNat + 1 := by
  refine ⟨by omega, by omega, by omega, ?_, by omega, by omega⟩
  unfold wrap64
  omega
set_option maxRecDepth 100000 in
set_option maxHeartbeats 4000000 in
theorem RRead_go (h : DIx w F g ds) (a : Int) (m : Nat) (ha : 0 ≤ a ∧ a < 18446744073709551616) (hn : 1 ≤ m) (e : DE) (he : ds[(ds.map (·.r)).findIdx (inD a)]? = some e) (hm : (m : Int) ≤ e.r.bytes.length - (a - e.r.base)) (hp : e.r.perm % 2 ≠ 0) :
    Calls Try.prog 52 #[.pointer (some ⟨g, 0, none⟩), .int .u64 a, .int .i64 (m : Int)] w fun x w' =>
      (allSet e.r.set (a - e.r.base).toNat m = true → ∃ v, x = .returned (.tuple #[v, .int .i64 0]) ∧ OV w' w.heap.size v ((e.r.bytes.drop (a - e.r.base).toNat).take m)) ∧
      (allSet e.r.set (a - e.r.base).toNat m = false → x = .returned (.tuple #[.slice none 0 0, .int .i64 11])) ∧ Below w.heap.size w w' := by
  obtain ⟨ao, bl, cap, g0, hc, hcm, hA⟩ := h.at_
  have hlen := h.len
  have her : (ds.map (·.r))[(ds.map (·.r)).findIdx (inD a)]? = some e.r := by rw [List.getElem?_map, he]; rfl
  have hO := Of_hit h a ha e he
  obtain ⟨hl, h1, h2⟩ := idx_in her
  have hR := h.regs _ e he
  have hok := hR.ok
  have hlen2 := hok.len
  have hslen := hok.slen
  have hperm := hok.perm
  generalize (ds.map (·.r)).findIdx (inD a) = k at *
  obtain ⟨nn, hnn⟩ : ∃ nn, nn = ds.length := ⟨_, rfl⟩
  have hk : k < nn := by rw [hnn]; exact (List.getElem?_eq_some_iff.1 he).1
  rw [← hnn] at g0 hc hlen
  obtain ⟨rfl, r0, r1, r2, r3, r4, -⟩ := hA k e he
  obtain ⟨dn, hD⟩ := Int.eq_ofNat_of_zero_le (show 0 ≤ a - e.r.base by omega)
  rw [hD] at hO hm h2 ⊢
  rw [Int.toNat_natCast]
  obtain ⟨N, hN⟩ : ∃ N : Int, N = (m : Int) := ⟨_, rfl⟩
  obtain ⟨D, hDD⟩ : ∃ D : Int, D = (dn : Int) := ⟨_, rfl⟩
  obtain ⟨E, hE⟩ : ∃ E : Int, E = D + N := ⟨_, rfl⟩
  obtain ⟨B, hB⟩ : ∃ B : Int, B = (e.r.bytes.length : Int) := ⟨_, rfl⟩
  rw [← hDD] at hO
  rw [← hN]
  have HO := Lib.hid hO
  have n1 : ¬ N < 0 := by omega
  have n2 : (N == 0) = false := by rw [beq_eq_false_iff_ne]; omega
  have k0 : ¬ (k : Int) < 0 := by omega
  have hw1 : wrap64 ((e.r.bytes.length : Int) - D) = (e.r.bytes.length : Int) - D := by unfold wrap64; omega
  have hsum : wrap64 (D + N) = E := by unfold wrap64; omega
  have hpp : Int.tmod e.r.perm 2 = e.r.perm % 2 := Int.tmod_eq_emod_of_nonneg hperm.1
  have hp1 : e.r.perm % 2 = 1 := by omega
  rw [hp1] at hpp
  have hp2 : wrap64 (1 : Int) = 1 := by unfold wrap64; omega
  have c3 : ((e.r.bytes.length : Int) - D < N) = False := by simp; omega
  have hdm : dn + m ≤ e.r.bytes.length := by omega
  have HR := Lib.hid hR
  have HN := Lib.hid hN
  have HD := Lib.hid hDD
  have HE := Lib.hid hE
  have HLEN := Lib.hid hlen2
  have HDM := Lib.hid hdm
  have HSL := Lib.hid hslen
  clear hO h hn he her hok hA hnn hD hl hperm hR hm hp hp1 hE hDD hN hdm h1 h2 hlen2 hslen ha hB
  go_enter Try.func52, Try.ntmps52
  go_wp2_with fail
  refine HO.out.mono ?_
  rintro x w1 ⟨rfl, hB⟩
  have HG := Lib.hid (And.intro g0 (And.intro r3 r4))
  have g0 := Mem3.old hB g0
  have r0 := Mem3.old hB r0
  have r1 := Mem3.old hB r1
  have r2 := Mem3.old hB r2
  have r3 := Mem3.old hB r3
  have r4 := Mem3.old hB r4
  have HB1 := Lib.hid hB
  clear hB HO
  go_wp2
  clear g0 r0 r1 r2 r3 r4
  go_loopw [10, 11] (fun v i wr => ∃ (t : Nat) (K : Int), t ≤ m ∧ i = .int .i64 K ∧ Hid (K = (dn : Int) + t) ∧ Hid (OV wr w.heap.size v ((e.r.bytes.drop dn).take t)) ∧ Hid (∀ j, j < t → e.r.set[dn + j]? = some true) ∧ Hid (Below w.heap.size w wr)) (fun _ i _ => (dn + m) - (intOf i).toNat)
  case atStart => exact ⟨0, D, Nat.zero_le _, rfl, Lib.hid (by rw [HD.out]; simp), Lib.hid (Kd.R_nil _ _ _ _ _), Lib.hid (fun j hj => by omega), HB1⟩
  case round =>
    obtain ⟨t, K, ht, rfl, HK, HV, HS, HB⟩ := hrel
    by_cases hlt : t < m
    · have g0 := Mem3.old HB.out HG.out.1
      have r3 := Mem3.old HB.out HG.out.2.1
      have r4 := Mem3.old HB.out HG.out.2.2
      obtain ⟨f1, f2, f3, f4, f5, f6⟩ := loop_facts HK.out HN.out HD.out HE.out (Nat.le_trans HDM.out HLEN.out.2) hlt
      have f7 : K < (e.r.bytes.length : Int) := by have := HDM.out; omega
      have hrow := HR.out.row.keep (HB.out.block _ HR.out.row.lt)
      have hsrow := HR.out.srow.keep (HB.out.block _ HR.out.srow.lt)
      obtain ⟨s, hs⟩ : ∃ s, e.r.set[dn + t]? = some s := ⟨_, List.getElem?_eq_getElem (by have := HDM.out; have := HSL.out; omega)⟩
      obtain ⟨x, hx⟩ : ∃ x, e.r.bytes[dn + t]? = some x := ⟨_, List.getElem?_eq_getElem (by have := HDM.out; omega)⟩
      have cs : wr.cell? ⟨e.gs, K.toNat, none⟩ = some (.bool s) := by
        rw [f3, hsrow.cell (dn + t) (by rw [List.length_map]; exact (List.getElem?_eq_some_iff.1 hs).1)]
        rw [List.getElem_map]
        obtain ⟨_, h2⟩ := List.getElem?_eq_some_iff.1 hs
        rw [h2]
      have cx : wr.cell? ⟨e.gb, K.toNat, none⟩ = some (.int .u8 x) := by
        rw [f3, hrow.cell (dn + t) (by rw [List.length_map]; exact (List.getElem?_eq_some_iff.1 hx).1)]
        rw [List.getElem_map]
        obtain ⟨_, h2⟩ := List.getElem?_eq_some_iff.1 hx
        rw [h2]
      have HX := Lib.hid (And.intro hs hx)
      have HK7 : Hid (K.toNat < dn + m) := Lib.hid (by omega)
      clear hrow hsrow hs hx f3 HK
      have HF5 := Lib.hid f5
      have HF6 := Lib.hid f6
      clear f5 f6
      cases s with
      | false =>
        have HT : Hid (allSet e.r.set dn m = false) := Lib.hid (not_all_of hlt HX.out.1)
        go_wp2
        go_ret2
        exact ⟨fun hf => absurd (HT.out.symm.trans hf) (by simp), fun _ => rfl, HB.out⟩
      | true =>
        have HLim : Hid (((e.r.bytes.drop dn).take t).length + 1 ≤ 65537) := Lib.hid (by rw [List.length_take]; have := HDM.out; have := HLEN.out; omega)
        go_wp2_with (first
          | ((with_reducible refine gate_builtin (b := .append) (xs := #[.tmp 71, .tmp 83]) rfl ?_); at_builtin; refine Kd.R_append (Kd.int .u8) (w0 := w) w.heap.size rfl (.tmp 71) (.tmp 83) 36 5 (.int .u8 0) 1 rfl Try.underlying36 info5 rfl (by decide) (by omega) _ ((e.r.bytes.drop dn).take t) x [.int .u8 x] (fun _ => True) (fun _ => False) rfl rfl ?aP (fun _ hk => hk.elim) ?aF ?aO ?aB ?aS ?aL ?_
             case aP => exact rfl
             case aF => exact fun _ _ => trivial
             case aO => exact HV.out
             case aB => exact HB.out
             case aS => exact HB.out.size
             case aL => have := HLim.out; omega
             intro v2 w2 ho hb hg hat
             rw [take_more HX.out.2] at ho
             have HV2 : Hid (OV w2 w.heap.size v2 ((e.r.bytes.drop dn).take (t + 1))) := Lib.hid ho
             have HB2 := Lib.hid hb
             clear ho hb hg hat HV HB)
          | fail)
        case roundEnd =>
          rw [f4]
          refine ⟨⟨t + 1, K + 1, by omega, rfl, HF5, HV2, Lib.hid (fun j hj => ?_), HB2⟩, ?_⟩
          · by_cases hj2 : j < t
            · exact HS.out j hj2
            · obtain rfl : j = t := by omega
              exact HX.out.1
          · have h6 := HF6.out
            have h7 := HK7.out
            simp only [intOf]
            omega
    · obtain rfl : t = m := by omega
      have HT : Hid (allSet e.r.set dn t = true) := Lib.hid (all_of HS.out)
      have f1 : ¬ K < E := by have := HK.out; have := HE.out; have := HN.out; have := HD.out; omega
      go_wp2
      go_ret2
      exact ⟨fun _ => ⟨_, rfl, HV.out⟩, fun hf => absurd (HT.out.symm.trans hf) (by simp), HB.out⟩
theorem atD_none {rs : List DR} {a n : Int} (h : rs[rs.findIdx (inD a)]? = none) : atD rs a n = none := by unfold atD; rw [h]
theorem atD_some {rs : List DR} {a n : Int} {r : DR} (h : rs[rs.findIdx (inD a)]? = some r) : atD rs a n = if n ≤ r.bytes.length - (a - r.base) then some (rs.findIdx (inD a), r, a - r.base) else none := by unfold atD; rw [h]
theorem RRead_ (h : DIx w F g ds) (a n : Int) (ha : 0 ≤ a ∧ a < 18446744073709551616) :
    Calls Try.prog 52 #[.pointer (some ⟨g, 0, none⟩), .int .u64 a, .int .i64 n] w fun x w' => ∃ v, x = .returned (.tuple #[v, .int .i64 (readD (ds.map (·.r)) a n).1]) ∧ OV w' w.heap.size v (readD (ds.map (·.r)) a n).2 ∧ Below w.heap.size w w' := by
  unfold readD
  by_cases h1 : n < 0
  · rw [if_pos h1]
    exact (RRead_neg g a n w h1).mono fun x w' ⟨e1, e2⟩ => ⟨_, e1, Kd.R_nil _ _ _ _ _, e2 ▸ Below.refl _ _⟩
  rw [if_neg h1]
  by_cases h2 : n = 0
  · subst h2
    rw [if_pos rfl]
    exact (RRead_zero g a w).mono fun x w' ⟨e1, e2⟩ => ⟨_, e1, Kd.R_nil _ _ _ _ _, e2 ▸ Below.refl _ _⟩
  rw [if_neg h2]
  have hn : 1 ≤ n := by omega
  cases he : ds[(ds.map (·.r)).findIdx (inD a)]? with
  | none =>
    have hm : (ds.map (·.r))[(ds.map (·.r)).findIdx (inD a)]? = none := by rw [List.getElem?_map, he]; rfl
    rw [atD_none hm]
    exact (RRead_none h a n ha hn hm).mono fun x w' ⟨e1, e2⟩ => ⟨_, e1, Kd.R_nil _ _ _ _ _, e2⟩
  | some e =>
    have hm : (ds.map (·.r))[(ds.map (·.r)).findIdx (inD a)]? = some e.r := by rw [List.getElem?_map, he]; rfl
    rw [atD_some hm]
    by_cases c1 : n ≤ (e.r.bytes.length : Int) - (a - e.r.base)
    · rw [if_pos c1]
      simp only
      by_cases c2 : e.r.perm % 2 = 0
      · rw [if_pos c2]
        exact (RRead_short h a n ha hn e he (.inr c2)).mono fun x w' ⟨e1, e2⟩ => ⟨_, e1, Kd.R_nil _ _ _ _ _, e2⟩
      · rw [if_neg c2]
        obtain ⟨m, rfl⟩ := Int.eq_ofNat_of_zero_le (show 0 ≤ n by omega)
        rw [Int.toNat_natCast]
        refine (RRead_go h a m ha (by omega) e he c1 c2).mono fun x w' ⟨e1, e2, e3⟩ => ?_
        cases hs : allSet e.r.set (a - e.r.base).toNat m with
        | true =>
          obtain ⟨v, e4, e5⟩ := e1 hs
          exact ⟨v, e4, e5, e3⟩
        | false => exact ⟨_, e2 hs, Kd.R_nil _ _ _ _ _, e3⟩
    · rw [if_neg c1]
      exact (RRead_short h a n ha hn e he (.inl c1)).mono fun x w' ⟨e1, e2⟩ => ⟨_, e1, Kd.R_nil _ _ _ _ _, e2⟩
end
end Go.Proofs.Ytpjgaacdohiomaa.MemRC
namespace Go.Proofs.Ytpjgaacdohiomaa.MemRD
open Go.RowKit Go.Proofs.Ytpjgaacdohiomaa.PMemCopies Go.Proofs.YtpjgaacdohiomaaW.PrintWords Go.Proofs.YtpjgaacdohiomaaW.PrintLast Go.Proofs.YtpjgaacdohiomaaW.PrintMore Go.Proofs.Ytpjgaacdohiomaa.Mw Go.Proofs.Ytpjgaacdohiomaa.Mem1 Go.Proofs.Ytpjgaacdohiomaa.Mem6 Go.Proofs.Ytpjgaacdohiomaa.Mem8 Go.Proofs.Ytpjgaacdohiomaa.MemD Go.Proofs.Ytpjgaacdohiomaa.MemRA Go.Proofs.Ytpjgaacdohiomaa.MemRB Go.Proofs.Ytpjgaacdohiomaa.MemRC
set_option linter.unusedVariables false
set_option linter.unusedSimpArgs false
theorem over_take {α : Type} (l xs : List α) (i t : Nat) (x : α) (h : i + xs.length ≤ l.length) (hx : xs[t]? = some x) : (over l (xs.take t) i).set (i + t) x = over l (xs.take (t + 1)) i := by
  have ht := (List.getElem?_eq_some_iff.1 hx).1
  apply List.ext_getElem?
  intro j
  have hl := over_len (l := l) (xs := xs.take t) (i := i) (by rw [List.length_take]; omega)
  rw [List.getElem?_set, over_get _ _ _ _ (by rw [List.length_take]; omega), over_get _ _ _ _ (by rw [List.length_take]; omega), List.length_take, List.length_take, hl, List.getElem?_take, List.getElem?_take]
  by_cases hj : i + t = j
  · subst hj
    rw [if_pos rfl, if_pos (by omega), if_pos (by omega), if_pos (by omega), show i + t - i = t by omega, hx]
  · rw [if_neg hj]
    by_cases h1 : i ≤ j ∧ j < i + t
    · rw [if_pos (by omega), if_pos (by omega), if_pos (by omega), if_pos (by omega)]
    · rw [if_neg (by omega), if_neg (by omega)]
/-- What Lay has left so far. -/
structure LayS (w w' : World) (e : DE) (i : Nat) (xs : List Int) (t : Nat) : Prop where
  step : Step w w' (fun b => b = e.gb ∨ b = e.gs) (fun b => b = e.gb ∨ b = e.gs)
  size : w'.heap.size = w.heap.size
  row : Row w' e.gb 5 ((over e.r.bytes (xs.take t) i).map (Value.int .u8))
  set : Row w' e.gs 4 ((over e.r.set (List.replicate t true) i).map Value.bool)
section
variable {w w' : World} {F : Nat → Prop} {g : Nat} {ds : List DE} {e : DE} {i t : Nat} {xs : List Int}
theorem LayS.start (h : DAt w F e) : LayS w w e i xs 0 :=
  ⟨Step.refl _ _, rfl, by rw [List.take_zero, over_nil]; exact h.row, by rw [List.replicate_zero, over_nil]; exact h.srow⟩
theorem LayS.ne (h : DAt w F e) : e.gb ≠ e.gs := by
  obtain ⟨_, h1⟩ := h.row
  obtain ⟨_, h2⟩ := h.srow
  exact blk_ne h1 h2 (by decide)
theorem LayS.more (hR : DAt w F e) (h : LayS w w' e i xs t) (hfit : i + xs.length ≤ e.r.bytes.length) (x : Int) (hx : xs[t]? = some x) :
    LayS w ((w'.setCell ⟨e.gb, i + t, none⟩ (.int .u8 x)).setCell ⟨e.gs, i + t, none⟩ (.bool true)) e i xs (t + 1) := by
  have hne := LayS.ne hR
  have hsl := hR.ok.slen
  have ht := (List.getElem?_eq_some_iff.1 hx).1
  have hl1 := over_len (l := e.r.bytes) (xs := xs.take t) (i := i) (by rw [List.length_take]; omega)
  have hl2 := over_len (l := e.r.set) (xs := List.replicate t true) (i := i) (by rw [List.length_replicate]; omega)
  refine ⟨(h.step.setCell (p := ⟨e.gb, i + t, none⟩) (.inl (.inl rfl)) _).setCell (p := ⟨e.gs, i + t, none⟩) (.inl (.inr rfl)) _, by simpa [World.setCell] using h.size, ?_, ?_⟩
  · have h1 := h.row.set_ (i + t) (by rw [List.length_map]; omega) (.int .u8 x)
    rw [← List.map_set, over_take _ _ _ _ _ hfit hx] at h1
    exact h1.keep (Below.heap_setCell _ ⟨e.gs, i + t, none⟩ _ e.gb hne)
  · have h0 := h.set.keep (Below.heap_setCell w' ⟨e.gb, i + t, none⟩ (.int .u8 x) e.gs (Ne.symm hne))
    have h1 := h0.set_ (i + t) (by rw [List.length_map]; omega) (.bool true)
    rwa [← List.map_set, over_more _ _ _ (by omega)] at h1
/-- The memory's blocks are no region's. -/
theorem _root_.Go.Proofs.Ytpjgaacdohiomaa.MemRA.DIx.typ (h : DIx w F g ds) {bl n c : Nat} (hc : w.cell? ⟨g, 0, none⟩ = some (.slice (some ⟨bl, 0, none⟩) n c)) : (∃ cs, w.heap[g]? = some (.cells cs 52 (0, 0))) ∧ (∃ cs, w.heap[bl]? = some (.cells cs 59 (0, 0))) ∧ F bl := by
  obtain ⟨v, h1, h2⟩ := h.self
  have e1 : w.cell? ⟨g, 0, none⟩ = some v := (blk_cell h1 0).trans rfl
  rw [hc] at e1
  obtain rfl := Option.some.inj e1
  rcases h2.1.2 with ⟨e2, _⟩ | ⟨b2, cap2, cur, e2, -, hb, _⟩
  · cases e2
  · cases e2
    exact ⟨⟨_, h1⟩, ⟨_, hb⟩, h2.2 bl rfl⟩
theorem _root_.Go.Proofs.Ytpjgaacdohiomaa.MemRA.DAt.typ (h : DAt w F e) : (∃ cs, w.heap[e.gb]? = some (.cells cs 5 (0, 0))) ∧ (∃ cs, w.heap[e.gs]? = some (.cells cs 4 (0, 0))) := by
  obtain ⟨_, h1⟩ := h.row
  obtain ⟨_, h2⟩ := h.srow
  exact ⟨⟨_, h1⟩, ⟨_, h2⟩⟩
theorem lay_frame (h : DIx w F g ds) (hR : DAt w F e) {bl nn cap : Nat} (g0 : w.cell? ⟨g, 0, none⟩ = some (.slice (some ⟨bl, 0, none⟩) nn cap)) : g ≠ e.gb ∧ g ≠ e.gs ∧ bl ≠ e.gb ∧ bl ≠ e.gs := by
  obtain ⟨⟨_, t1⟩, ⟨_, t2⟩, _⟩ := h.typ g0
  obtain ⟨⟨_, t3⟩, ⟨_, t4⟩⟩ := hR.typ
  exact ⟨blk_ne t1 t3 (by decide), blk_ne t1 t4 (by decide), blk_ne t2 t3 (by decide), blk_ne t2 t4 (by decide)⟩
theorem LayS.cells (hR : DAt w F e) (h : LayS w w' e i xs t) (j : Nat) (hj : j < e.r.bytes.length) (hfit : i + xs.length ≤ e.r.bytes.length) (ht : t ≤ xs.length) : (∃ u, w'.cell? ⟨e.gb, j, none⟩ = some u) ∧ w'.frozen? ⟨e.gb, j, none⟩ = false ∧ ∃ u, ∀ v, (w'.setCell ⟨e.gb, j, none⟩ v).cell? ⟨e.gs, j, none⟩ = some u ∧ (w'.setCell ⟨e.gb, j, none⟩ v).frozen? ⟨e.gs, j, none⟩ = false := by
  have hne := LayS.ne hR
  have hsl := hR.ok.slen
  have hl1 := over_len (l := e.r.bytes) (xs := xs.take t) (i := i) (by rw [List.length_take]; omega)
  have hl2 := over_len (l := e.r.set) (xs := List.replicate t true) (i := i) (by rw [List.length_replicate]; omega)
  have h0 := fun v => h.set.keep (Below.heap_setCell w' ⟨e.gb, j, none⟩ v e.gs (Ne.symm hne))
  exact ⟨⟨_, h.row.cell j (by rw [List.length_map]; omega)⟩, h.row.frozen j, _, fun v => ⟨(h0 v).cell j (by rw [List.length_map]; omega), (h0 v).frozen j⟩⟩
theorem cell_set_ne {w : World} {b b' i j : Nat} {v u : Value} (h : w.cell? ⟨b, i, none⟩ = some u) (hne : b ≠ b') : (w.setCell ⟨b', j, none⟩ v).cell? ⟨b, i, none⟩ = some u := by
  rw [World.cell?_setCell_other _ _ _ _ (fun e => hne (congrArg Addr.block e).symm)]
  exact h
theorem lay_facts {dn t : Nat} {K D : Int} {n b : Nat} (hK : K = (t : Int)) (hD : D = (dn : Int)) (hb : b ≤ 65536) (hfit : dn + n ≤ b) (ht : t < n) :
    0 ≤ K ∧ K < (n : Int) ∧ wrap64 (D + K) = D + K ∧ 0 ≤ D + K ∧ D + K < (b : Int) ∧ (D + K).toNat = dn + t ∧ wrap64 (K + 1) = K + 1 ∧ K + 1 = ((t + 1 : Nat) : Int) ∧ K.toNat = t := by
  refine ⟨by omega, by omega, ?_, by omega, by omega, by omega, ?_, by omega, by omega⟩ <;> (unfold wrap64; omega)
set_option maxRecDepth 100000 in
set_option maxHeartbeats 4000000 in
theorem RLay_ (h : DIx w F g ds) (k : Nat) (he : ds[k]? = some e) (dn : Nat) (ao : Option Addr) (c : Nat) (xs : List Int) (hC : Kd.C (Kd.int .u8) w ao xs.length xs) (hA : ∀ ad, ao = some ad → 0 < xs.length → ¬ F ad.block) (hfit : dn + xs.length ≤ e.r.bytes.length) (hxc : xs.length ≤ c) :
    Calls Try.prog 60 #[.pointer (some ⟨g, 0, none⟩), .int .i64 (k : Int), .int .i64 (dn : Int), .slice ao xs.length c] w fun x w' => x = .returned (.tuple #[]) ∧ LayS w w' e dn xs xs.length := by
  obtain ⟨ao2, bl, cap, g0, hc, hcm, hA2⟩ := h.at_
  have hlen := h.len
  have hR := h.regs k e he
  have hlen2 := hR.ok.len
  obtain ⟨rfl, r0, r1, r2, r3, r4, -⟩ := hA2 k e he
  obtain ⟨nn, hnn⟩ : ∃ nn, nn = ds.length := ⟨_, rfl⟩
  have hk : k < nn := by rw [hnn]; exact (List.getElem?_eq_some_iff.1 he).1
  rw [← hnn] at g0 hc hlen
  obtain ⟨D, hD⟩ : ∃ D : Int, D = (dn : Int) := ⟨_, rfl⟩
  rw [← hD]
  obtain ⟨n, hn⟩ : ∃ n, n = xs.length := ⟨_, rfl⟩
  obtain ⟨q1, q2, q3, q4⟩ := lay_frame h hR g0
  have HQ := Lib.hid (And.intro q1 (And.intro q2 (And.intro q3 q4)))
  have HLP : Hid (∀ W t, LayS w W e dn xs t → W.cell? ⟨g, 0, none⟩ = some (.slice (some ⟨bl, 0, none⟩) nn cap) ∧ W.cell? ⟨bl, k * 5 + 3, none⟩ = some (.slice (some ⟨e.gb, 0, none⟩) e.r.bytes.length e.cb) ∧ W.cell? ⟨bl, k * 5 + 4, none⟩ = some (.slice (some ⟨e.gs, 0, none⟩) e.r.bytes.length e.cs)) :=
    Lib.hid fun W t hL => ⟨hL.step.cell g0 (fun h => h.elim q1 q2), hL.step.cell r3 (fun h => h.elim q3 q4), hL.step.cell r4 (fun h => h.elim q3 q4)⟩
  have HCC : Hid (∀ W t, LayS w W e dn xs t → Kd.C (Kd.int .u8) W ao xs.length xs) :=
    Lib.hid fun W t hL => Cu8_step hC hL.step (fun ad e1 hn hb => hA ad e1 hn (hb.elim (fun h => h ▸ hR.inF.1) (fun h => h ▸ hR.inF.2)))
  have HR := Lib.hid hR
  have HD := Lib.hid hD
  have HN := Lib.hid hn
  have HFIT := Lib.hid hfit
  have HLEN := Lib.hid hlen2.2
  rw [← hn] at hxc ⊢
  clear h he hA2 hC hA hR hnn hD hn hfit hlen2 q1 q2 q3 q4
  go_enter Try.func60, Try.ntmps60
  go_wp2
  clear g0 r0 r1 r2 r3 r4
  go_loopw [12] (fun v wr => ∃ (t : Nat) (K : Int), t ≤ n ∧ v = .int .i64 K ∧ Hid (K = (t : Int)) ∧ Hid (LayS w wr e dn xs t)) (fun v _ => n - (intOf v).toNat)
  case atStart => exact ⟨0, 0, Nat.zero_le _, rfl, Lib.hid rfl, Lib.hid (LayS.start HR.out)⟩
  case round =>
    obtain ⟨t, K, ht, rfl, HK, HL⟩ := hrel
    by_cases hlt : t < n
    · obtain ⟨f1, f2, f3, f4, f5, f6, f7, f8, f9⟩ := lay_facts HK.out HD.out HLEN.out (by rw [HN.out]; exact HFIT.out) hlt
      obtain ⟨x, hx⟩ : ∃ x, xs[t]? = some x := ⟨_, List.getElem?_eq_getElem (by rw [← HN.out]; exact hlt)⟩
      obtain ⟨g0, r3, r4⟩ := HLP.out wr t HL.out
      obtain ⟨ad, ea, hxc⟩ := Kd.at_int (HCC.out wr t HL.out) K f1 (by rw [← HN.out]; exact f2)
      have hrd : rd xs K = x := by unfold rd; rw [f9, List.getD_eq_getElem?_getD, hx]; rfl
      rw [hrd, f9] at hxc
      rw [ea]
      obtain ⟨⟨u1, c1⟩, c2, u2, c3⟩ := HL.out.cells HR.out (dn + t) (by have := HFIT.out; have := HN.out; omega) HFIT.out (by have := HN.out; omega)
      have g0' : ∀ v, (wr.setCell ⟨e.gb, dn + t, none⟩ v).cell? ⟨g, 0, none⟩ = some (.slice (some ⟨bl, 0, none⟩) nn cap) := fun v => cell_set_ne g0 HQ.out.1
      have r4' : ∀ v, (wr.setCell ⟨e.gb, dn + t, none⟩ v).cell? ⟨bl, k * 5 + 4, none⟩ = some (.slice (some ⟨e.gs, 0, none⟩) e.r.bytes.length e.cs) := fun v => cell_set_ne r4 HQ.out.2.2.1
      have c4 := fun v => (c3 v).1
      have c5 := fun v => (c3 v).2
      have HM := Lib.hid (HL.out.more HR.out HFIT.out x hx)
      have HF8 := Lib.hid f8
      clear c3 f8 HL HK hx hrd HCC HLP
      go_wp2
      case roundEnd =>
        rw [f7]
        exact ⟨⟨t + 1, K + 1, by omega, rfl, HF8, HM⟩, by simp only [intOf]; omega⟩
    · obtain rfl : t = n := by omega
      have f1 : ¬ K < (t : Int) := by have := HK.out; omega
      go_wp2
      go_end0
      exact ⟨rfl, HL.out⟩
def layD (r : DR) (i : Nat) (xs : List Int) : DR := { r with bytes := over r.bytes xs i, set := over r.set (List.replicate xs.length true) i }
def layDE (e : DE) (i : Nat) (xs : List Int) : DE := { e with r := layD e.r i xs }
theorem flat_set {α β : Type} (f : α → List β) : ∀ (l : List α) (k : Nat) (a b : α), l[k]? = some a → f a = f b → (l.set k b).flatMap f = l.flatMap f
  | [], k, a, b, h, _ => by simp at h
  | x :: l, 0, a, b, h, he => by simp at h; subst h; simp [he]
  | x :: l, k + 1, a, b, h, he => by
    simp at h
    simp only [List.set_cons_succ, List.flatMap_cons, flat_set f l k a b h he]
theorem DIx.lay (h : DIx w F g ds) (k : Nat) (he : ds[k]? = some e) (hfit : i + xs.length ≤ e.r.bytes.length) (hbs : Bs xs) (hD : LayS w w' e i xs xs.length) :
    DIx w' F g (ds.set k (layDE e i xs)) ∧ Step w w' F F := by
  have hR := h.regs k e he
  have hk := (List.getElem?_eq_some_iff.1 he).1
  have hsl := hR.ok.slen
  have hl : (over e.r.bytes xs i).length = e.r.bytes.length := over_len hfit
  have hl2 : (over e.r.set (List.replicate xs.length true) i).length = e.r.set.length := over_len (by rw [List.length_replicate]; omega)
  have hlt : ∀ b, F b → b < w.heap.size := h.lt
  have hkeep : ∀ b, b ≠ e.gb → b ≠ e.gs → b < w.heap.size → w'.heap[b]? = w.heap[b]? := fun b h1 h2 h3 => hD.step.block b h3 (fun h => h.elim h1 h2)
  have getE : ∀ (j : Nat) (e' : DE), (ds.set k (layDE e i xs))[j]? = some e' → (j = k ∧ e' = layDE e i xs) ∨ (j ≠ k ∧ ds[j]? = some e') := fun j e' hj => by
    rw [List.getElem?_set] at hj
    by_cases hjk : k = j
    · rw [if_pos hjk, if_pos (by omega)] at hj
      exact .inl ⟨hjk.symm, by simpa using hj.symm⟩
    · rw [if_neg hjk] at hj
      exact .inr ⟨fun h => hjk h.symm, hj⟩
  have hrow : Row w' e.gb 5 ((over e.r.bytes xs i).map (Value.int .u8)) := by have := hD.row; rwa [List.take_length] at this
  refine ⟨⟨?_, ?_, ?_, h.inF, fun b hb => by rw [hD.size]; exact h.lt b hb, by rw [List.length_set]; exact h.len⟩, ⟨hD.step.os, hD.step.tape, hD.step.output, hD.step.size, fun b hb hF => hkeep b (fun e1 => hF (e1 ▸ hR.inF.1)) (fun e1 => hF (e1 ▸ hR.inF.2)) hb, fun b hb => .inl hb⟩⟩
  · obtain ⟨v, h1, h2⟩ := h.self
    obtain ⟨⟨_, t3⟩, ⟨_, t4⟩⟩ := hR.typ
    refine ⟨v, (hkeep g (blk_ne h1 t3 (by decide)) (blk_ne h1 t4 (by decide)) (blk_lt h1)).trans h1, ?_, h2.2⟩
    rw [List.length_set, flat_set cells5 ds k e (layDE e i xs) he (by simp only [cells5, layDE, layD, hl])]
    refine own_move h2.1 (fun b hb => ?_)
    obtain ⟨_, ht⟩ := own_typed h2.1 b hb
    exact hkeep b (blk_ne ht t3 (by decide)) (blk_ne ht t4 (by decide)) (blk_lt ht)
  · intro j e' hj
    rcases getE j e' hj with ⟨rfl, rfl⟩ | ⟨hjk, hj⟩
    · exact ⟨hrow, hD.set, hR.inF, by simp only [layDE, layD, hl]; exact hR.caps, ⟨by simp only [layDE, layD, hl]; exact hR.ok.len, by simp only [layDE, layD, hl, hl2]; exact hsl, by simp only [layDE, layD, hl]; exact hR.ok.base, hR.ok.perm, fun x hx => (over_mem hx).elim (hR.ok.bs x) (hbs x)⟩⟩
    · have hR' := h.regs j e' hj
      have hap := h.apart j k e' e hj he hjk
      obtain ⟨⟨_, t3⟩, ⟨_, t4⟩⟩ := hR.typ
      obtain ⟨⟨_, t5⟩, ⟨_, t6⟩⟩ := hR'.typ
      exact ⟨hR'.row.keep (hkeep _ hap.1 (blk_ne t5 t4 (by decide)) (blk_lt t5)), hR'.srow.keep (hkeep _ (blk_ne t6 t3 (by decide)) hap.2 (blk_lt t6)), hR'.inF, hR'.caps, hR'.ok⟩
  · have like : ∀ (j : Nat) (e' : DE), (ds.set k (layDE e i xs))[j]? = some e' → ∃ e0, ds[j]? = some e0 ∧ e'.gb = e0.gb ∧ e'.gs = e0.gs := fun j e' hj => by
      rcases getE j e' hj with ⟨rfl, rfl⟩ | ⟨_, hj⟩
      · exact ⟨e, he, rfl, rfl⟩
      · exact ⟨e', hj, rfl, rfl⟩
    intro j j' e1 e2 h1 h2 hne
    obtain ⟨a1, b1, c1, d1⟩ := like j e1 h1
    obtain ⟨a2, b2, c2, d2⟩ := like j' e2 h2
    rw [c1, c2, d1, d2]
    exact h.apart j j' a1 a2 b1 b2 hne
end
end Go.Proofs.Ytpjgaacdohiomaa.MemRD
namespace Go.Proofs.Ytpjgaacdohiomaa.MemRE
open Go.RowKit Go.Proofs.Ytpjgaacdohiomaa.PMemCopies Go.Proofs.YtpjgaacdohiomaaW.PrintWords Go.Proofs.YtpjgaacdohiomaaW.PrintLast Go.Proofs.YtpjgaacdohiomaaW.PrintMore Go.Proofs.Ytpjgaacdohiomaa.Mw Go.Proofs.Ytpjgaacdohiomaa.Mem1 Go.Proofs.Ytpjgaacdohiomaa.Mem6 Go.Proofs.Ytpjgaacdohiomaa.Mem8 Go.Proofs.Ytpjgaacdohiomaa.MemD Go.Proofs.Ytpjgaacdohiomaa.MemRA Go.Proofs.Ytpjgaacdohiomaa.MemRB Go.Proofs.Ytpjgaacdohiomaa.MemRC Go.Proofs.Ytpjgaacdohiomaa.MemRD
set_option linter.unusedVariables false
set_option linter.unusedSimpArgs false
def writeD (ds : List DR) (a : Int) (xs : List Int) : Int × List DR :=
  if xs.length = 0 then (0, ds) else
  match atD ds a xs.length with
  | none => (10, ds)
  | some (k, r, d) => if r.perm / 2 % 2 = 0 then (10, ds) else (0, ds.set k (layD r d.toNat xs))
def killD (ds : List DR) (id : Int) : Int × List DR :=
  if hasD ds id = true then (0, ds.modify id.toNat (fun r => { r with live := false })) else (14, ds)
def pokeD (ds : List DR) (id a : Int) (xs : List Int) : Int × List DR :=
  if hasD ds id = true then
    match ds[id.toNat]? with
    | none => (14, ds)
    | some r => if 0 ≤ a ∧ a + xs.length ≤ r.bytes.length then (0, ds.set id.toNat (layD r a.toNat xs)) else (2, ds)
  else (14, ds)
theorem perm_facts {p : Int} (h : 0 ≤ p ∧ p ≤ 7) : ∃ P, P = p / 2 ∧ wrap64 (Int.tdiv p 2) = P ∧ Int.tdiv p 2 = P ∧ Int.tmod P 2 = P % 2 ∧ wrap64 (P % 2) = P % 2 ∧ wrap64 (0 : Int) = 0 ∧ wrap64 (1 : Int) = 1 ∧ wrap64 P = P ∧ (P % 2 = 0 ∨ P % 2 = 1) := by
  refine ⟨p / 2, rfl, ?_, Int.tdiv_eq_ediv_of_nonneg h.1, Int.tmod_eq_emod_of_nonneg (by omega), ?_, ?_, ?_, ?_, by omega⟩
  · rw [Int.tdiv_eq_ediv_of_nonneg h.1]; unfold wrap64; omega
  all_goals (unfold wrap64; omega)
section
variable {w w' : World} {F : Nat → Prop} {g : Nat} {ds : List DE} {xs : List Int}
theorem RWrite_zero (g : Nat) (a : Int) (ao : Option Addr) (c : Nat) (w : World) :
    Calls Try.prog 53 #[.pointer (some ⟨g, 0, none⟩), .int .u64 a, .slice ao 0 c] w fun x w' => x = .returned (.int .i64 0) ∧ w = w' := by
  go_enter Try.func53, Try.ntmps53
  go_wp2
  go_ret
  exact ⟨rfl, rfl⟩
theorem RWrite_none (h : DIx w F g ds) (a : Int) (ha : 0 ≤ a ∧ a < 18446744073709551616) (ao : Option Addr) (n c : Nat) (hn : 0 < n) (hm : (ds.map (·.r))[(ds.map (·.r)).findIdx (inD a)]? = none) :
    Calls Try.prog 53 #[.pointer (some ⟨g, 0, none⟩), .int .u64 a, .slice ao n c] w fun x w' => x = .returned (.int .i64 10) ∧ Below w.heap.size w w' := by
  have hO := Of_ h a ha
  unfold ofV at hO
  rw [hm] at hO
  have HO := Lib.hid hO
  have n1 : ¬ n = 0 := by omega
  have n2 : ((n : Int) == 0) = false := by rw [beq_eq_false_iff_ne]; omega
  clear hO h hm hn
  go_enter Try.func53, Try.ntmps53
  go_wp2_with fail
  refine HO.out.mono ?_
  rintro e w1 ⟨rfl, hB⟩
  go_wp2
  go_ret
  exact ⟨rfl, hB⟩
theorem RWrite_short (h : DIx w F g ds) (a : Int) (ha : 0 ≤ a ∧ a < 18446744073709551616) (ao : Option Addr) (n c : Nat) (hn : 0 < n) (e : DE) (he : ds[(ds.map (·.r)).findIdx (inD a)]? = some e) (hm : ¬ (n : Int) ≤ e.r.bytes.length - (a - e.r.base) ∨ e.r.perm / 2 % 2 = 0) :
    Calls Try.prog 53 #[.pointer (some ⟨g, 0, none⟩), .int .u64 a, .slice ao n c] w fun x w' => x = .returned (.int .i64 10) ∧ Below w.heap.size w w' := by
  obtain ⟨ao2, bl, cap, g0, hc, hcm, hA⟩ := h.at_
  have hlen := h.len
  have her : (ds.map (·.r))[(ds.map (·.r)).findIdx (inD a)]? = some e.r := by rw [List.getElem?_map, he]; rfl
  have hO := Of_hit h a ha e he
  obtain ⟨hl, h1, h2⟩ := idx_in her
  have hok := (h.regs _ e he).ok
  have hlen2 := hok.len
  obtain ⟨P, hP, p1, p2, p3, p4, p5, p6, p7, -⟩ := perm_facts hok.perm
  generalize (ds.map (·.r)).findIdx (inD a) = k at *
  obtain ⟨nn, hnn⟩ : ∃ nn, nn = ds.length := ⟨_, rfl⟩
  have hk : k < nn := by rw [hnn]; exact (List.getElem?_eq_some_iff.1 he).1
  rw [← hnn] at g0 hc hlen
  obtain ⟨rfl, r0, r1, r2, r3, r4, -⟩ := hA k e he
  have HO := Lib.hid hO
  have n1 : ¬ n = 0 := by omega
  have n2 : ((n : Int) == 0) = false := by rw [beq_eq_false_iff_ne]; omega
  obtain ⟨D, hD⟩ : ∃ D, D = a - e.r.base := ⟨_, rfl⟩
  rw [← hD] at HO hm h2
  rw [← hP] at hm
  have k0 : ¬ (k : Int) < 0 := by omega
  have hw1 : wrap64 ((e.r.bytes.length : Int) - D) = (e.r.bytes.length : Int) - D := by unfold wrap64; omega
  clear hO h hn he her hok hA hnn hD hl hP
  by_cases c1 : (n : Int) ≤ (e.r.bytes.length : Int) - D
  · have c2 : P % 2 = 0 := hm.resolve_left (fun h => h c1)
    have c3 : ((e.r.bytes.length : Int) - D < n) = False := by simp; omega
    rw [c2] at p3
    clear hm
    go_enter Try.func53, Try.ntmps53
    go_wp2_with fail
    refine HO.out.mono ?_
    rintro e w1 ⟨rfl, hB⟩
    have g0 := Mem3.old hB g0
    have r0 := Mem3.old hB r0
    have r1 := Mem3.old hB r1
    have r2 := Mem3.old hB r2
    have r3 := Mem3.old hB r3
    go_wp2
    go_ret
    exact ⟨rfl, hB⟩
  · clear hm
    go_enter Try.func53, Try.ntmps53
    go_wp2_with fail
    refine HO.out.mono ?_
    rintro e w1 ⟨rfl, hB⟩
    have g0 := Mem3.old hB g0
    have r0 := Mem3.old hB r0
    have r1 := Mem3.old hB r1
    have r2 := Mem3.old hB r2
    have r3 := Mem3.old hB r3
    go_wp2
    go_ret
    exact ⟨rfl, hB⟩
theorem RWrite_ok (h : DIx w F g ds) (a : Int) (ha : 0 ≤ a ∧ a < 18446744073709551616) (ao : Option Addr) (c : Nat) (hn : 0 < xs.length) (hC : Kd.C (Kd.int .u8) w ao xs.length xs) (hA : ∀ ad, ao = some ad → 0 < xs.length → ¬ F ad.block) (hxc : xs.length ≤ c) (hbs : Bs xs)
    (e : DE) (he : ds[(ds.map (·.r)).findIdx (inD a)]? = some e) (hm : (xs.length : Int) ≤ e.r.bytes.length - (a - e.r.base)) (hp : ¬ e.r.perm / 2 % 2 = 0) :
    Calls Try.prog 53 #[.pointer (some ⟨g, 0, none⟩), .int .u64 a, .slice ao xs.length c] w fun x w' => x = .returned (.int .i64 0) ∧ DIx w' F g (ds.set ((ds.map (·.r)).findIdx (inD a)) (layDE e (a - e.r.base).toNat xs)) ∧ Step w w' F F := by
  obtain ⟨ao2, bl, cap, g0, hc, hcm, hA2⟩ := h.at_
  have hlen := h.len
  have her : (ds.map (·.r))[(ds.map (·.r)).findIdx (inD a)]? = some e.r := by rw [List.getElem?_map, he]; rfl
  have hO := Of_hit h a ha e he
  obtain ⟨hl, h1, h2⟩ := idx_in her
  have hok := (h.regs _ e he).ok
  have hlen2 := hok.len
  obtain ⟨P, hP, p1, p2, p3, p4, p5, p6, p7, p8⟩ := perm_facts hok.perm
  generalize (ds.map (·.r)).findIdx (inD a) = k at *
  obtain ⟨nn, hnn⟩ : ∃ nn, nn = ds.length := ⟨_, rfl⟩
  have hk : k < nn := by rw [hnn]; exact (List.getElem?_eq_some_iff.1 he).1
  rw [← hnn] at g0 hc hlen
  obtain ⟨rfl, r0, r1, r2, r3, r4, -⟩ := hA2 k e he
  obtain ⟨dn, hD⟩ := Int.eq_ofNat_of_zero_le (show 0 ≤ a - e.r.base by omega)
  rw [hD] at hO hm h2 ⊢
  rw [Int.toNat_natCast]
  have hfit : dn + xs.length ≤ e.r.bytes.length := by omega
  have HL : Hid (∀ W, Below w.heap.size w W → Calls Try.prog 60 #[.pointer (some ⟨g, 0, none⟩), .int .i64 (k : Int), .int .i64 (dn : Int), .slice ao xs.length c] W fun x w' => x = .returned (.tuple #[]) ∧ DIx w' F g (ds.set k (layDE e dn xs)) ∧ Step w w' F F) := Lib.hid (fun W hB => by
    refine (RLay_ (h.below hB) k he dn ao c xs (Kd.C_below hC hB) hA hfit hxc).mono fun x w' ⟨e1, e2⟩ => ?_
    obtain ⟨e3, e4⟩ := DIx.lay (h.below hB) k he hfit hbs e2
    exact ⟨e1, e3, (Step.of_below hB F).trans e4⟩)
  have HO := Lib.hid hO
  obtain ⟨D, hDD⟩ : ∃ D : Int, D = (dn : Int) := ⟨_, rfl⟩
  obtain ⟨n, hnx⟩ : ∃ n, n = xs.length := ⟨_, rfl⟩
  rw [← hDD] at HO HL
  rw [← hnx] at HL hm hn hfit ⊢
  have n1 : ¬ n = 0 := by omega
  have n2 : ((n : Int) == 0) = false := by rw [beq_eq_false_iff_ne]; omega
  have k0 : ¬ (k : Int) < 0 := by omega
  have hw1 : wrap64 ((e.r.bytes.length : Int) - D) = (e.r.bytes.length : Int) - D := by unfold wrap64; omega
  have c3 : ((e.r.bytes.length : Int) - D < n) = False := by simp; omega
  have c2 : P % 2 = 1 := by omega
  rw [c2] at p3
  clear hO h hn he her hok hA2 hnn hD hl hP hA hC hfit hxc hm h2 hDD hp hnx p8
  go_enter Try.func53, Try.ntmps53
  go_wp2_with fail
  refine HO.out.mono ?_
  rintro x w1 ⟨rfl, hB⟩
  have g0 := Mem3.old hB g0
  have r0 := Mem3.old hB r0
  have r1 := Mem3.old hB r1
  have r2 := Mem3.old hB r2
  have r3 := Mem3.old hB r3
  have HB := Lib.hid hB
  clear hB
  go_wp2_with fail
  refine (HL.out _ HB.out).mono ?_
  rintro x w2 ⟨rfl, h1, h2⟩
  have HH := Lib.hid (And.intro h1 h2)
  clear h1 h2 HL
  go_wp2
  go_ret
  exact ⟨rfl, HH.out⟩
def killDE (e : DE) : DE := { e with r := { e.r with live := false } }
theorem flat_kill : ∀ (l : List DE) (k : Nat) (a : DE), l[k]? = some a → (l.set k (killDE a)).flatMap cells5 = (l.flatMap cells5).set (k * 5) (.bool false)
  | [], k, a, h => by simp at h
  | x :: l, 0, a, h => by simp at h; subst h; rfl
  | x :: l, k + 1, a, h => by
    simp at h
    rw [List.set_cons_succ, List.flatMap_cons, List.flatMap_cons, flat_kill l k a h, List.set_append_right _ _ (by rw [cells5_len]; omega), cells5_len, show (k + 1) * 5 - 5 = k * 5 by omega]
theorem DIx.kill (h : DIx w F g ds) {k bl nn cap : Nat} {e : DE} (he : ds[k]? = some e) (g0 : w.cell? ⟨g, 0, none⟩ = some (.slice (some ⟨bl, 0, none⟩) nn cap)) :
    DIx (w.setCell ⟨bl, k * 5, none⟩ (.bool false)) F g (ds.set k (killDE e)) ∧ Step w (w.setCell ⟨bl, k * 5, none⟩ (.bool false)) F F := by
  obtain ⟨⟨_, t1⟩, ⟨cs, t2⟩, hF⟩ := h.typ g0
  have hk := (List.getElem?_eq_some_iff.1 he).1
  have hkeep : ∀ b, b ≠ bl → (w.setCell ⟨bl, k * 5, none⟩ (.bool false)).heap[b]? = w.heap[b]? := fun b hb => Below.heap_setCell w ⟨bl, k * 5, none⟩ _ b hb
  have hreg : ∀ (j : Nat) (e' : DE), ds[j]? = some e' → DAt (w.setCell ⟨bl, k * 5, none⟩ (.bool false)) F e' := fun j e' hj => by
    have hR' := h.regs j e' hj
    obtain ⟨⟨_, t5⟩, ⟨_, t6⟩⟩ := hR'.typ
    exact ⟨hR'.row.keep (hkeep _ (blk_ne t5 t2 (by decide))), hR'.srow.keep (hkeep _ (blk_ne t6 t2 (by decide))), hR'.inF, hR'.caps, hR'.ok⟩
  have getE : ∀ (j : Nat) (e' : DE), (ds.set k (killDE e))[j]? = some e' → ∃ e0, ds[j]? = some e0 ∧ (e' = e0 ∨ e' = killDE e0) := fun j e' hj => by
    rw [List.getElem?_set] at hj
    by_cases hjk : k = j
    · subst hjk
      rw [if_pos rfl, if_pos hk] at hj
      exact ⟨e, he, .inr (Option.some.inj hj).symm⟩
    · rw [if_neg hjk] at hj
      exact ⟨e', hj, .inl rfl⟩
  refine ⟨⟨?_, ?_, ?_, h.inF, fun b hb => by have := h.lt b hb; simpa [World.setCell] using this, by rw [List.length_set]; exact h.len⟩, ⟨rfl, rfl, rfl, by simp [World.setCell], fun b _ hb => hkeep b (fun e1 => hb (e1 ▸ hF)), fun b hb => .inl hb⟩⟩
  · obtain ⟨v, h1, h2⟩ := h.self
    refine ⟨v, (hkeep g (blk_ne h1 t2 (by decide))).trans h1, ?_, h2.2⟩
    rcases h2.1 with ⟨hl, hz | ⟨b2, cap2, cur, e2, hb2, hh, hn, hm, hs, ht⟩⟩
    · obtain ⟨_, h0⟩ := hz; omega
    · have e1 : w.cell? ⟨g, 0, none⟩ = some v := (blk_cell h1 0).trans rfl
      rw [g0] at e1
      obtain rfl := Option.some.inj e1
      cases e2
      rw [flat_kill ds k e he, List.length_set]
      refine ⟨by rw [List.length_set]; exact hl, .inr ⟨_, _, cur.setIfInBounds (k * 5) (.bool false), rfl, hb2, MemB.heap_setCell_at hh, hn, hm, by simpa using hs, ?_⟩⟩
      rw [Array.toList_setIfInBounds, ← ht, List.take_set]
  · intro j e' hj
    obtain ⟨e0, h0, h1⟩ := getE j e' hj
    have hR := hreg j e0 h0
    rcases h1 with rfl | rfl
    · exact hR
    · exact ⟨hR.row, hR.srow, hR.inF, hR.caps, ⟨hR.ok.len, hR.ok.slen, hR.ok.base, hR.ok.perm, hR.ok.bs⟩⟩
  · intro j j' e1 e2 h1 h2 hne
    obtain ⟨a1, b1, c1⟩ := getE j e1 h1
    obtain ⟨a2, b2, c2⟩ := getE j' e2 h2
    have := h.apart j j' a1 a2 b1 b2 hne
    rcases c1 with rfl | rfl <;> rcases c2 with rfl | rfl <;> exact this
theorem has_true {rs : List DR} {id : Int} (h : hasD rs id = true) : ∃ (k : Nat) (r : DR), id = (k : Int) ∧ rs[k]? = some r ∧ r.live = true := by
  unfold hasD at h
  simp only [Bool.and_eq_true, decide_eq_true_eq] at h
  obtain ⟨k, rfl⟩ := Int.eq_ofNat_of_zero_le h.1
  rw [Int.toNat_natCast] at h
  cases hr : rs[k]? with
  | none => rw [hr] at h; exact absurd h.2 (by simp)
  | some r => rw [hr] at h; exact ⟨k, r, rfl, hr, h.2⟩
theorem Kill_no (h : DIx w F g ds) (id : Int) (hh : hasD (ds.map (·.r)) id = false) :
    Calls Try.prog 50 #[.pointer (some ⟨g, 0, none⟩), .int .i64 id] w fun x w' => x = .returned (.int .i64 14) ∧ w = w' := by
  have HC := Has_ h id
  rw [hh] at HC
  have HC := Lib.hid HC
  clear h hh
  go_enter Try.func50, Try.ntmps50
  go_wp2_with fail
  refine HC.out.mono ?_
  rintro e w1 ⟨rfl, rfl⟩
  go_wp2
  go_ret
  exact ⟨rfl, rfl⟩
theorem Kill_yes (h : DIx w F g ds) (k : Nat) (e : DE) (he : ds[k]? = some e) (hh : hasD (ds.map (·.r)) (k : Int) = true) :
    Calls Try.prog 50 #[.pointer (some ⟨g, 0, none⟩), .int .i64 (k : Int)] w fun x w' => x = .returned (.int .i64 0) ∧ DIx w' F g (ds.set k (killDE e)) ∧ Step w w' F F := by
  have HC := Has_ h k
  rw [hh] at HC
  have HC := Lib.hid HC
  obtain ⟨ao2, bl, cap, g0, hc, hcm, hA2⟩ := h.at_
  have hlen := h.len
  obtain ⟨nn, hnn⟩ : ∃ nn, nn = ds.length := ⟨_, rfl⟩
  have hk : k < nn := by rw [hnn]; exact (List.getElem?_eq_some_iff.1 he).1
  rw [← hnn] at g0 hc hlen
  obtain ⟨rfl, r0, r1, r2, r3, r4, rf⟩ := hA2 k e he
  have HD := Lib.hid (DIx.kill h he g0)
  clear h hh he hA2 hnn r1 r2 r3 r4
  go_enter Try.func50, Try.ntmps50
  go_wp2_with fail
  refine HC.out.mono ?_
  rintro x w1 ⟨rfl, rfl⟩
  go_wp2
  go_ret
  exact ⟨rfl, HD.out⟩
theorem RPoke_no (h : DIx w F g ds) (id a : Int) (v : Value) (hh : hasD (ds.map (·.r)) id = false) :
    Calls Try.prog 54 #[.pointer (some ⟨g, 0, none⟩), .int .i64 id, .int .i64 a, v] w fun x w' => x = .returned (.int .i64 14) ∧ w = w' := by
  have HC := Has_ h id
  rw [hh] at HC
  have HC := Lib.hid HC
  clear h hh
  go_enter Try.func54, Try.ntmps54
  go_wp2_with fail
  refine HC.out.mono ?_
  rintro e w1 ⟨rfl, rfl⟩
  go_wp2
  go_ret
  exact ⟨rfl, rfl⟩
theorem RPoke_arg (h : DIx w F g ds) (k : Nat) (a : Int) (ao : Option Addr) (n c : Nat) (e : DE) (he : ds[k]? = some e) (hh : hasD (ds.map (·.r)) (k : Int) = true) (hn : n ≤ 9223372036854775807) (ha : -9223372036854775808 ≤ a ∧ a ≤ 9223372036854775807) (hbad : ¬ (0 ≤ a ∧ a + n ≤ e.r.bytes.length)) :
    Calls Try.prog 54 #[.pointer (some ⟨g, 0, none⟩), .int .i64 (k : Int), .int .i64 a, .slice ao n c] w fun x w' => x = .returned (.int .i64 2) ∧ w = w' := by
  have HC := Has_ h k
  rw [hh] at HC
  have HC := Lib.hid HC
  obtain ⟨ao2, bl, cap, g0, hc, hcm, hA2⟩ := h.at_
  have hlen := h.len
  have hlen2 := (h.regs k e he).ok.len
  obtain ⟨nn, hnn⟩ : ∃ nn, nn = ds.length := ⟨_, rfl⟩
  have hk : k < nn := by rw [hnn]; exact (List.getElem?_eq_some_iff.1 he).1
  rw [← hnn] at g0 hc hlen
  obtain ⟨rfl, r0, r1, r2, r3, r4, rf⟩ := hA2 k e he
  clear h hh he hA2 hnn
  by_cases c1 : a < 0
  · go_enter Try.func54, Try.ntmps54
    go_wp2_with fail
    refine HC.out.mono ?_
    rintro x w1 ⟨rfl, rfl⟩
    go_wp2
    go_ret
    exact ⟨rfl, rfl⟩
  by_cases c2 : (e.r.bytes.length : Int) < a
  · go_enter Try.func54, Try.ntmps54
    go_wp2_with fail
    refine HC.out.mono ?_
    rintro x w1 ⟨rfl, rfl⟩
    go_wp2
    go_ret
    exact ⟨rfl, rfl⟩
  have hw : wrap64 ((e.r.bytes.length : Int) - a) = (e.r.bytes.length : Int) - a := by unfold wrap64; omega
  have c3 : (e.r.bytes.length : Int) - a < (n : Int) := by omega
  clear hbad
  go_enter Try.func54, Try.ntmps54
  go_wp2_with fail
  refine HC.out.mono ?_
  rintro x w1 ⟨rfl, rfl⟩
  go_wp2
  go_ret
  exact ⟨rfl, rfl⟩
theorem RPoke_ok (h : DIx w F g ds) (k dn : Nat) (ao : Option Addr) (c : Nat) (e : DE) (he : ds[k]? = some e) (hh : hasD (ds.map (·.r)) (k : Int) = true) (hfit : dn + xs.length ≤ e.r.bytes.length) (hC : Kd.C (Kd.int .u8) w ao xs.length xs) (hA : ∀ ad, ao = some ad → 0 < xs.length → ¬ F ad.block) (hxc : xs.length ≤ c) (hbs : Bs xs) :
    Calls Try.prog 54 #[.pointer (some ⟨g, 0, none⟩), .int .i64 (k : Int), .int .i64 (dn : Int), .slice ao xs.length c] w fun x w' => x = .returned (.int .i64 0) ∧ DIx w' F g (ds.set k (layDE e dn xs)) ∧ Step w w' F F := by
  have HC := Has_ h k
  rw [hh] at HC
  have HC := Lib.hid HC
  have HL : Hid (Calls Try.prog 60 #[.pointer (some ⟨g, 0, none⟩), .int .i64 (k : Int), .int .i64 (dn : Int), .slice ao xs.length c] w fun x w' => x = .returned (.tuple #[]) ∧ DIx w' F g (ds.set k (layDE e dn xs)) ∧ Step w w' F F) := Lib.hid (by
    refine (RLay_ h k he dn ao c xs hC hA hfit hxc).mono fun x w' ⟨e1, e2⟩ => ?_
    exact ⟨e1, DIx.lay h k he hfit hbs e2⟩)
  obtain ⟨ao2, bl, cap, g0, hc, hcm, hA2⟩ := h.at_
  have hlen := h.len
  have hlen2 := (h.regs k e he).ok.len
  obtain ⟨nn, hnn⟩ : ∃ nn, nn = ds.length := ⟨_, rfl⟩
  have hk : k < nn := by rw [hnn]; exact (List.getElem?_eq_some_iff.1 he).1
  rw [← hnn] at g0 hc hlen
  obtain ⟨rfl, r0, r1, r2, r3, r4, rf⟩ := hA2 k e he
  obtain ⟨D, hDD⟩ : ∃ D : Int, D = (dn : Int) := ⟨_, rfl⟩
  obtain ⟨n, hnx⟩ : ∃ n, n = xs.length := ⟨_, rfl⟩
  rw [← hDD] at HL ⊢
  rw [← hnx] at HL hfit ⊢
  have c1 : ¬ D < 0 := by omega
  have c2 : ¬ (e.r.bytes.length : Int) < D := by omega
  have hw : wrap64 ((e.r.bytes.length : Int) - D) = (e.r.bytes.length : Int) - D := by unfold wrap64; omega
  have c3 : ¬ (e.r.bytes.length : Int) - D < (n : Int) := by omega
  clear h hh he hA2 hnn hfit hC hA hxc hDD hnx
  go_enter Try.func54, Try.ntmps54
  go_wp2_with fail
  refine HC.out.mono ?_
  rintro x w1 ⟨rfl, rfl⟩
  go_wp2_with fail
  refine HL.out.mono ?_
  rintro x w2 ⟨rfl, h1, h2⟩
  have HH := Lib.hid (And.intro h1 h2)
  clear h1 h2 HL
  go_wp2
  go_ret
  exact ⟨rfl, HH.out⟩
end
end Go.Proofs.Ytpjgaacdohiomaa.MemRE
