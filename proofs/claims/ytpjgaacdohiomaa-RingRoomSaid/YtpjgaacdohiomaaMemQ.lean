/- mem.Memory, by its regions' values alone: what each call answers and makes. -/
import Derived.Test.YtpjgaacdohiomaaMemE
namespace Go.Proofs.Ytpjgaacdohiomaa.MemQ
open Go.RowKit Go.Proofs.Ytpjgaacdohiomaa.PMemCopies Go.Proofs.YtpjgaacdohiomaaW.PrintWords Go.Proofs.YtpjgaacdohiomaaW.PrintLast Go.Proofs.YtpjgaacdohiomaaW.PrintMore Go.Proofs.Ytpjgaacdohiomaa.Mw Go.Proofs.Ytpjgaacdohiomaa.Mem1 Go.Proofs.Ytpjgaacdohiomaa.Mem2 Go.Proofs.Ytpjgaacdohiomaa.Mem3 Go.Proofs.Ytpjgaacdohiomaa.Mem4 Go.Proofs.Ytpjgaacdohiomaa.Mem5 Go.Proofs.Ytpjgaacdohiomaa.Mem6 Go.Proofs.Ytpjgaacdohiomaa.MemA Go.Proofs.Ytpjgaacdohiomaa.MemB Go.Proofs.Ytpjgaacdohiomaa.Mem7 Go.Proofs.Ytpjgaacdohiomaa.Mem8 Go.Proofs.Ytpjgaacdohiomaa.Mem9 Go.Proofs.Ytpjgaacdohiomaa.MemN Go.Proofs.Ytpjgaacdohiomaa.MemC Go.Proofs.Ytpjgaacdohiomaa.MemD Go.Proofs.Ytpjgaacdohiomaa.MemE
set_option linter.unusedVariables false
set_option linter.unusedSimpArgs false
instance : DecidableEq Rg := fun a b => decidable_of_iff (a.id = b.id ∧ a.base = b.base ∧ a.perm = b.perm ∧ a.bytes = b.bytes ∧ a.set = b.set) ⟨fun ⟨h1, h2, h3, h4, h5⟩ => by cases a; cases b; simp_all, fun h => by subst h; exact ⟨rfl, rfl, rfl, rfl, rfl⟩⟩
def inQ (a : Int) (r : Rg) : Bool := decide (r.base ≤ a) && decide (a - r.base < r.bytes.length)
def atQ (rs : List Rg) (a n : Int) : Option (Nat × Rg × Int) :=
  match rs[rs.findIdx (inQ a)]? with
  | some r => if n ≤ r.bytes.length - (a - r.base) then some (rs.findIdx (inQ a), r, a - r.base) else none
  | none => none
def readQ (rs : List Rg) (a n : Int) : Int × List Int :=
  if n < 0 then (2, []) else if n = 0 then (0, []) else
  match atQ rs a n with
  | none => (10, [])
  | some (k, r, d) => if r.perm % 2 = 0 then (10, []) else if setOk r d.toNat n.toNat = true then (0, (r.bytes.drop d.toNat).take n.toNat) else (11, [])
def loadQ (rs : List Rg) (a s : Int) : Int × Int := if ¬ okSize s then (2, 0) else if (readQ rs a s).1 = 0 then (0, num (readQ rs a s).2) else ((readQ rs a s).1, 0)
def writeQ (rs : List Rg) (a : Int) (xs : List Int) : Int × List Rg :=
  if xs.length = 0 then (0, rs) else
  match atQ rs a xs.length with
  | none => (10, rs)
  | some (k, r, d) => if r.perm / 2 % 2 = 0 then (10, rs) else (0, rs.set k (layR r d.toNat xs))
def storeQ (rs : List Rg) (a s v : Int) : Int × List Rg := if ¬ okSize s then (2, rs) else writeQ rs a (putB v s.toNat)
def busyQ (b l : Int) (r : Rg) : Bool := decide (r.base ≤ l) && decide (b ≤ r.base + (r.bytes.length - 1))
instance (b s p : Int) : Decidable (argOk b s p) := by unfold argOk; infer_instance
def addQ (rs : List Rg) (nx b s p : Int) : Int × Int × List Rg × Int :=
  if ¬ argOk b s p then (0, 2, rs, nx) else if rs.any (busyQ b (b + (s - 1))) = true then (0, 12, rs, nx) else if rs.length = 4096 then (0, 13, rs, nx) else (nx, 0, rs ++ [newR nx b p s.toNat], nx + 1)
def isIdQ (id : Int) (r : Rg) : Bool := decide (r.id = id)
def idQ (rs : List Rg) (id : Int) : Option Rg := rs.find? (isIdQ id)
def findQ (rs : List Rg) (a : Int) : Int × Int × Bool := match atQ rs a 1 with | some (k, r, d) => (r.id, d, true) | none => (0, 0, false)
def bytesQ (rs : List Rg) (id : Int) : Int × List Int := match idQ rs id with | none => (14, []) | some r => (0, r.bytes)
/-- The memory lies at g and has these regions. -/
def MQ (w : World) (F : Nat → Prop) (g : Nat) (rs : List Rg) (nx : Int) : Prop := ∃ es : List Ent, es.map (·.r) = rs ∧ MIx w F g es nx
theorem at_none {es : List Ent} {a n : Int} (h : atR es a n = none) : atQ (es.map (·.r)) a n = none := by
  unfold atR at h
  unfold atQ
  have e1 : (es.map (·.r)).findIdx (inQ a) = es.findIdx (inR a) := by rw [List.findIdx_map]; rfl
  rw [e1, List.getElem?_map]
  cases hf : es.find? (inR a) with
  | none =>
    have : es.findIdx (inR a) = es.length := List.findIdx_eq_length.2 (fun x hx => by have := List.find?_eq_none.1 hf x hx; simpa using this)
    rw [this, List.getElem?_eq_none (by omega)]
    rfl
  | some e =>
    rw [hf] at h
    simp only at h
    obtain ⟨hp, i, hi, he, hm⟩ := List.find?_eq_some_iff_getElem.1 hf
    have : es.findIdx (inR a) = i := (List.findIdx_eq hi).2 ⟨by rw [he]; exact hp, fun j hj => by simpa using hm j hj⟩
    rw [this, List.getElem?_eq_getElem hi, he]
    simp only [Option.map_some]
    split at h
    · cases h
    · rename_i hn
      rw [if_neg hn]
theorem at_some {es : List Ent} {a n : Int} {e : Ent} {d : Int} (h : atR es a n = some (e, d)) : atQ (es.map (·.r)) a n = some (es.findIdx (inR a), e.r, d) := by
  have hi := atR_idx h
  obtain ⟨-, -, hd, hn⟩ := atR_mem h
  unfold atQ
  have e1 : (es.map (·.r)).findIdx (inQ a) = es.findIdx (inR a) := by rw [List.findIdx_map]; rfl
  rw [e1, List.getElem?_map, hi]
  simp only [Option.map_some]
  rw [if_pos (by omega), hd]
theorem read_eq (es : List Ent) (a n : Int) : readS es a n = readQ (es.map (·.r)) a n := by
  unfold readS readQ
  cases hm : atR es a n with
  | none => rw [at_none hm]
  | some ed => obtain ⟨e, d⟩ := ed; rw [at_some hm]
theorem load_eq (es : List Ent) (a n : Int) : loadS es a n = loadQ (es.map (·.r)) a n := by unfold loadS loadQ; rw [read_eq]
theorem write_eq (es : List Ent) (a : Int) (xs : List Int) : (writeS es a xs).1 = (writeQ (es.map (·.r)) a xs).1 ∧ (writeS es a xs).2.map (·.r) = (writeQ (es.map (·.r)) a xs).2 := by
  unfold writeS writeQ
  by_cases h0 : xs.length = 0
  · rw [if_pos h0, if_pos h0]; exact ⟨rfl, rfl⟩
  rw [if_neg h0, if_neg h0]
  cases hm : atR es a xs.length with
  | none => rw [at_none hm]; exact ⟨rfl, rfl⟩
  | some ed =>
    obtain ⟨e, d⟩ := ed
    rw [at_some hm]
    simp only
    by_cases hp : e.r.perm / 2 % 2 = 0
    · rw [if_pos hp, if_pos hp]; exact ⟨rfl, rfl⟩
    · rw [if_neg hp, if_neg hp]; exact ⟨rfl, by rw [List.map_set]; rfl⟩
theorem store_eq (es : List Ent) (a s v : Int) : (storeS es a s v).1 = (storeQ (es.map (·.r)) a s v).1 ∧ (storeS es a s v).2.map (·.r) = (storeQ (es.map (·.r)) a s v).2 := by
  unfold storeS storeQ
  by_cases hs : ¬ okSize s
  · rw [if_pos hs, if_pos hs]; exact ⟨rfl, rfl⟩
  · rw [if_neg hs, if_neg hs]; exact write_eq _ _ _
theorem id_eq (es : List Ent) (id : Int) : (idE es id).map (·.r) = idQ (es.map (·.r)) id := by
  unfold idE idQ
  rw [List.find?_map]
  rfl
section
variable {w w' : World} {F : Nat → Prop} {g : Nat} {rs : List Rg} {nx : Int}
theorem MQ.drewN (h : MQ w F g rs nx) (n : Nat) : MQ (w.drewN n) F g rs nx := by obtain ⟨es, e, h⟩ := h; exact ⟨es, e, h.drewN n⟩
theorem MQ.below (h : MQ w F g rs nx) (hb : Below w.heap.size w w') : MQ w' F g rs nx := by obtain ⟨es, e, h⟩ := h; exact ⟨es, e, h.below hb⟩
theorem MQ.step {G G' : Nat → Prop} (h : MQ w F g rs nx) (hs : Step w w' G G') (ha : ∀ b, F b → ¬ G b) : MQ w' F g rs nx := by obtain ⟨es, e, h⟩ := h; exact ⟨es, e, h.step hs ha⟩
theorem MQ.lt (h : MQ w F g rs nx) : ∀ b, F b → b < w.heap.size := by obtain ⟨es, e, h⟩ := h; exact h.lt
theorem q_new (w : World) : Calls Try.prog 13 #[] w fun e w' => ∃ F g, e = .returned (.pointer (some ⟨g, 0, none⟩)) ∧ MQ w' F g [] 0 ∧ (∀ b, F b → w.heap.size ≤ b) ∧ Below w.heap.size w w' :=
  (New_ w).mono fun x w' ⟨F, g, e1, e2, e3, e4⟩ => ⟨F, g, e1, ⟨[], rfl, e2⟩, e3, e4⟩
theorem q_count (h : MQ w F g rs nx) : Calls Try.prog 19 #[.pointer (some ⟨g, 0, none⟩)] w fun e w' => e = .returned (.int .i64 (rs.length : Int)) ∧ w = w' := by
  obtain ⟨es, rfl, h⟩ := h
  rw [List.length_map]
  exact Count_ h
theorem q_live (h : MQ w F g rs nx) (id : Int) : Calls Try.prog 22 #[.pointer (some ⟨g, 0, none⟩), .int .i64 id] w fun e w' => e = .returned (.bool (idQ rs id).isSome) ∧ w = w' := by
  obtain ⟨es, rfl, h⟩ := h
  rw [← id_eq, Option.isSome_map]
  exact Live_ h id
theorem q_read (h : MQ w F g rs nx) (a n : Int) (ha : 0 ≤ a ∧ a < 18446744073709551616) :
    Calls Try.prog 17 #[.pointer (some ⟨g, 0, none⟩), .int .u64 a, .int .i64 n] w fun x w' => ∃ v, x = .returned (.tuple #[v, .int .i64 (readQ rs a n).1]) ∧ BV w' w.heap.size v (readQ rs a n).2 ∧ Below w.heap.size w w' := by
  obtain ⟨es, rfl, h⟩ := h
  rw [← read_eq]
  exact (Read_ h a n ha).mono fun x w' ⟨v, e1, e2, e3, _⟩ => ⟨v, e1, e2, e3⟩
theorem q_load (h : MQ w F g rs nx) (a s : Int) (ha : 0 ≤ a ∧ a < 18446744073709551616) :
    Calls Try.prog 16 #[.pointer (some ⟨g, 0, none⟩), .int .u64 a, .int .i64 s] w fun x w' => x = .returned (.tuple #[.int .u64 (loadQ rs a s).2, .int .i64 (loadQ rs a s).1]) ∧ Below w.heap.size w w' := by
  obtain ⟨es, rfl, h⟩ := h
  rw [← load_eq]
  exact Load_ h a s ha
theorem q_write (h : MQ w F g rs nx) (a : Int) (ha : 0 ≤ a ∧ a < 18446744073709551616) (ao : Option Addr) (xs : List Int) (c : Nat) (hC : Kd.C (Kd.int .u8) w ao xs.length xs) (hxc : xs.length ≤ c) (hbs : Bs xs) :
    Calls Try.prog 20 #[.pointer (some ⟨g, 0, none⟩), .int .u64 a, .slice ao xs.length c] w fun x w' => x = .returned (.int .i64 (writeQ rs a xs).1) ∧ MQ w' F g (writeQ rs a xs).2 nx ∧ Step w w' F F := by
  obtain ⟨es, rfl, h⟩ := h
  rw [← (write_eq es a xs).1, ← (write_eq es a xs).2]
  exact (Write_ h a ha ao xs c hC hxc hbs).mono fun x w' ⟨e1, e2, e3⟩ => ⟨e1, ⟨_, rfl, e2⟩, e3⟩
theorem q_store (h : MQ w F g rs nx) (a s v : Int) (ha : 0 ≤ a ∧ a < 18446744073709551616) (hv : 0 ≤ v ∧ v < 18446744073709551616) :
    Calls Try.prog 15 #[.pointer (some ⟨g, 0, none⟩), .int .u64 a, .int .i64 s, .int .u64 v] w fun x w' => x = .returned (.int .i64 (storeQ rs a s v).1) ∧ MQ w' F g (storeQ rs a s v).2 nx ∧ Step w w' F F := by
  obtain ⟨es, rfl, h⟩ := h
  rw [← (store_eq es a s v).1, ← (store_eq es a s v).2]
  exact (Store_ h a s v ha hv).mono fun x w' ⟨e1, e2, e3⟩ => ⟨e1, ⟨_, rfl, e2⟩, e3⟩
theorem q_bytes (h : MQ w F g rs nx) (id : Int) :
    Calls Try.prog 18 #[.pointer (some ⟨g, 0, none⟩), .int .i64 id] w fun x w' => ∃ v, x = .returned (.tuple #[v, .int .i64 (bytesQ rs id).1]) ∧ BV w' w.heap.size v (bytesQ rs id).2 ∧ Below w.heap.size w w' := by
  obtain ⟨es, rfl, h⟩ := h
  unfold bytesQ
  rw [← id_eq]
  cases hi : idE es id with
  | none => exact (Bytes_none h id hi).mono fun x w' ⟨e1, e2⟩ => ⟨_, e1, .inl ⟨rfl, rfl⟩, e2 ▸ Below.refl _ _⟩
  | some e =>
    obtain ⟨i, he⟩ := List.mem_iff_getElem?.1 (List.mem_of_find?_eq_some hi)
    exact (Bytes_some h id e i he hi).mono fun x w' ⟨b, c, e1, e2, e3, e4, e5⟩ => ⟨_, e1, .inr ⟨b, c, rfl, e2, e3, e4⟩, e5⟩
theorem q_find (h : MQ w F g rs nx) (a : Int) (ha : 0 ≤ a ∧ a < 18446744073709551616) :
    Calls Try.prog 28 #[.pointer (some ⟨g, 0, none⟩), .int .u64 a] w fun e w' => e = .returned (.tuple #[.int .i64 (findQ rs a).1, .int .i64 (findQ rs a).2.1, .bool (findQ rs a).2.2]) ∧ w = w' := by
  obtain ⟨es, rfl, h⟩ := h
  refine (Find_ h a ha).mono fun x w' ⟨e1, e2⟩ => ⟨e1.trans ?_, e2⟩
  unfold findV findQ
  cases hm : atR es a 1 with
  | none => rw [at_none hm]
  | some ed => obtain ⟨e, d⟩ := ed; rw [at_some hm]
theorem q_add (h : MQ w F g rs nx) (hx : nx < 1000000) (b s p : Int) (hb : 0 ≤ b ∧ b < 18446744073709551616) (hs : -9223372036854775808 ≤ s ∧ s < 9223372036854775808) :
    Calls Try.prog 14 #[.pointer (some ⟨g, 0, none⟩), .int .u64 b, .int .i64 s, .int .i64 p] w fun e w' =>
      e = .returned (.tuple #[.int .i64 (addQ rs nx b s p).1, .int .i64 (addQ rs nx b s p).2.1]) ∧ ∃ F', MQ w' F' g (addQ rs nx b s p).2.2.1 (addQ rs nx b s p).2.2.2 ∧ Step w w' F F' := by
  obtain ⟨es, rfl, h⟩ := h
  have hany : ∀ l, (es.map (·.r)).any (busyQ b l) = es.any (busyE b l) := fun l => by rw [List.any_map]; rfl
  unfold addQ
  by_cases ha : argOk b s p
  · rw [if_neg (by simpa using ha)]
    have hA := Add_go h hx b s p hb ha
    rw [hany, List.length_map]
    by_cases h1 : es.any (busyE b (b + (s - 1))) = true
    · rw [if_pos h1]
      refine hA.mono fun x w' hh => ?_
      obtain ⟨e1, q, rfl⟩ := hh.1 h1
      exact ⟨e1, F, ⟨es, rfl, h.drewN q⟩, (Step.refl w F).drewN q⟩
    · rw [if_neg h1]
      have h1' : es.any (busyE b (b + (s - 1))) = false := by simpa using h1
      by_cases h2 : es.length = 4096
      · rw [if_pos h2]
        refine hA.mono fun x w' hh => ?_
        obtain ⟨e1, q, rfl⟩ := hh.2.1 h1' h2
        exact ⟨e1, F, ⟨es, rfl, h.drewN q⟩, (Step.refl w F).drewN q⟩
      · rw [if_neg h2]
        refine hA.mono fun x w' hh => ?_
        obtain ⟨e1, F', en, e2, e3, e4⟩ := hh.2.2 h1' (by have := h.len; omega)
        exact ⟨e1, F', ⟨_, by rw [List.map_append, ← e2]; rfl, e3⟩, e4⟩
  · rw [if_pos ha]
    exact (Add_arg g b s p w hb hs ha).mono fun x w' ⟨e1, e2⟩ => ⟨e1, F, e2 ▸ ⟨es, rfl, h⟩, e2 ▸ Step.refl _ _⟩
end
end Go.Proofs.Ytpjgaacdohiomaa.MemQ
