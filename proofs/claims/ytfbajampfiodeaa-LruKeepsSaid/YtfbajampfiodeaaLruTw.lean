/- lru: with room for all keys it answers as a hash does: walked by hand. -/
import Derived.Test.YtfbajampfiodeaaImp07
import Derived.Test.YtfbajampfiodeaaFirst08
import Derived.Test.YtfbajampfiodeaaSameKeys08
import Derived.Test.YtfbajampfiodeaaOp
namespace Go.Proofs.Ytfbajampfiodeaa.LruTw
open Go.RowKit Go.Proofs.Ytfbajampfiodeaa.PArrayPlays Go.Proofs.YtfbajampfiodeaaW.PrintWords Go.Proofs.YtfbajampfiodeaaW.PrintLast Go.Proofs.YtfbajampfiodeaaW.PrintMore Go.Proofs.Ytfbajampfiodeaa.Mw Go.Proofs.Ytfbajampfiodeaa.Rx Go.Proofs.Ytfbajampfiodeaa.RxOps Go.Proofs.Ytfbajampfiodeaa.RxPut Go.Proofs.Ytfbajampfiodeaa.Fresh Go.Proofs.Ytfbajampfiodeaa.RefAbs Go.Proofs.Ytfbajampfiodeaa.Hm Go.Proofs.Ytfbajampfiodeaa.First08 Go.Proofs.Ytfbajampfiodeaa.Op
set_option linter.unusedVariables false
/-- Keys of one byte below 60, each held once: there is room. -/
def Small (ks : List (Option (List Int))) : Prop := ∀ (i : Nat) (l : List Int), ks[i]? = some (some l) → ∃ x : Int, l = [x] ∧ 0 ≤ x ∧ x < 60
theorem room {ks : List (Option (List Int))} (hs : Small ks) (hinj : ∀ (i j : Nat) l, ks[i]? = some (some l) → ks[j]? = some (some l) → i = j) (hl : ks.length = 64) : 0 ≤ freeAt ks 0 := by
  rcases free_bound ks 0 with h | ⟨r, h, _, _⟩
  · exfalso
    have hall := Imp08.free_all ks 0 h
    have h1 := Imp08.nodup_len 60 (ks.map fun k => ((k.getD []).headD 0).toNat) (by
      rw [List.nodup_iff_pairwise_ne, List.pairwise_iff_getElem]
      intro i j hi hj hij e
      rw [List.length_map] at hi hj
      rw [List.getElem_map, List.getElem_map] at e
      obtain ⟨l1, e1⟩ := hall i hi
      obtain ⟨l2, e2⟩ := hall j hj
      obtain ⟨x, rfl, hx⟩ := hs i l1 e1
      obtain ⟨y, rfl, hy⟩ := hs j l2 e2
      have e1' : ks[i] = some [x] := (List.getElem?_eq_some_iff.1 e1).2
      have e2' : ks[j] = some [y] := (List.getElem?_eq_some_iff.1 e2).2
      rw [e1', e2'] at e
      have e : x.toNat = y.toNat := e
      obtain rfl : x = y := by omega
      have := hinj i j [x] e1 e2
      omega) (fun n hn => by
      obtain ⟨k, hk, rfl⟩ := List.mem_map.1 hn
      obtain ⟨i, hi⟩ := List.mem_iff_getElem?.1 hk
      obtain ⟨l, e⟩ := hall i (List.getElem?_eq_some_iff.1 hi).1
      rw [e] at hi
      cases hi
      obtain ⟨x, rfl, hx⟩ := hs i l e
      show x.toNat < 60
      omega)
    rw [List.length_map] at h1
    omega
  · omega
theorem Small.set_ {ks : List (Option (List Int))} (h : Small ks) (i : Nat) {x : Int} (hx : 0 ≤ x ∧ x < 60) : Small (ks.set i (some [x])) := fun j l hj => by
  by_cases e : i = j
  · subst e
    rw [List.getElem?_set] at hj
    split at hj
    · split at hj
      · cases hj; exact ⟨x, rfl, hx⟩
      · cases hj
    · exact absurd rfl ‹¬ i = i›
  · rw [List.getElem?_set_ne e] at hj
    exact h j l hj
theorem Small.del {ks : List (Option (List Int))} (h : Small ks) (i : Nat) : Small (ks.set i none) := fun j l hj => by
  by_cases e : i = j
  · subst e
    rw [List.getElem?_set] at hj
    split at hj
    · split at hj <;> cases hj
    · exact absurd rfl ‹¬ i = i›
  · rw [List.getElem?_set_ne e] at hj
    exact h j l hj
/-- With room both put alike. -/
theorem put_twin (st : St) (l : List Int) (f : Int) (h : 0 ≤ freeAt st.ks 0) : put 1 1 st l f = put 2 1 st l f := by
  have : putOld 1 1 st.ks l f = putOld 2 1 st.ks l f := by
    unfold putOld
    repeat' split
    all_goals first | rfl | (exfalso; omega)
  unfold put
  rw [this]
theorem del_twin (st : St) (l : List Int) : del 1 1 st l = del 2 1 st l := by
  unfold del
  repeat' split
  all_goals first | rfl | (exfalso; omega)
theorem put_small {st : St} {f x : Int} (hs : Small st.ks) (hx : 0 ≤ x ∧ x < 60) : Small (put 2 1 st [x] f).2.ks ∧ (put 2 1 st [x] f).2.ks.length = st.ks.length := by
  unfold put
  split
  · exact ⟨hs, rfl⟩
  · split
    · exact ⟨hs, rfl⟩
    · exact ⟨hs.set_ _ hx, List.length_set⟩
theorem del_small {st : St} {x : Int} (hs : Small st.ks) : Small (del 2 1 st [x]).2.ks ∧ (del 2 1 st [x]).2.ks.length = st.ks.length := by
  unfold del
  split
  · exact ⟨hs, rfl⟩
  · split
    · exact ⟨hs, rfl⟩
    · exact ⟨hs.del _, List.length_set⟩
theorem fnd_small {st : St} {x : Int} (hs : Small st.ks) : Small (fnd 2 1 st [x]).2.ks ∧ (fnd 2 1 st [x]).2.ks.length = st.ks.length := by
  unfold fnd
  split <;> exact ⟨hs, rfl⟩
theorem fnd_twin (st : St) (l : List Int) : fnd 1 1 st l = fnd 2 1 st l := rfl
theorem small_rows {st : St} (hs : Small st.ks) (hl : st.ks.length = 64) : (keys st).length ≤ 64 ∧ ∀ l ∈ keys st, l.length = 1 ∧ ∀ x ∈ l, 0 ≤ x ∧ x ≤ 255 := by
  refine ⟨by rw [← hl]; exact List.length_filterMap_le _ _, fun l h => ?_⟩
  obtain ⟨k, hk, e⟩ := List.mem_filterMap.1 h
  have e : k = some l := e
  subst e
  obtain ⟨i, hi⟩ := List.mem_iff_getElem?.1 hk
  obtain ⟨x, rfl, h1, h2⟩ := hs i l hi
  exact ⟨rfl, fun y hy => by obtain rfl := List.mem_singleton.1 hy; omega⟩
/-- Both, behind the world w0. -/
structure Tw (w0 w : World) (F1 F2 : Nat → Prop) (gx gy n : Nat) (st : St) : Prop where
  x : Imp08.Imp w F1 gx n 1 st
  y : Imp07.Imp w F2 gy n 1 st
  ap : ∀ b, F1 b → ¬ F2 b
  low : (∀ b, F1 b → w0.heap.size ≤ b) ∧ ∀ b, F2 b → w0.heap.size ≤ b
  sm : Small st.ks
  ln : st.ks.length = 64
  bel : Below w0.heap.size w0 w
theorem Tw.room {w0 w : World} {F1 F2 : Nat → Prop} {gx gy n : Nat} {st : St} (h : Tw w0 w F1 F2 gx gy n st) : 0 ≤ freeAt st.ks 0 := by
  refine LruTw.room h.sm ?_ h.ln
  obtain ⟨bm, gt, hI⟩ := h.y
  obtain ⟨D, _, hm⟩ := hI.map
  exact fun i j l h1 h2 => hm.inj h1 h2
theorem Tw.alloc {w0 w : World} {F1 F2 : Nat → Prop} {gx gy n : Nat} {st : St} (h : Tw w0 w F1 F2 gx gy n st) (o : Obj) : Tw w0 (w.alloc o) F1 F2 gx gy n st :=
  ⟨h.x.keep (fun b hb => Below.heap_alloc w o b (h.x.lt b hb)) (by simp), h.y.keep (fun b hb => Below.heap_alloc w o b (h.y.lt b hb)) (by simp), h.ap, h.low, h.sm, h.ln, below_alloc h.bel o⟩
/-- Both have taken a step. -/
theorem Tw.step {w0 w w4 w5 : World} {F1 F2 G1 G2 : Nat → Prop} {gx gy n : Nat} {st st' : St} (h : Tw w0 w F1 F2 gx gy n st) (hx : Imp08.Imp w4 G1 gx (n + 1) 1 st') (s1 : Step w w4 F1 G1) (hy : Imp07.Imp w5 G2 gy (n + 1) 1 st') (s2 : Step w4 w5 F2 G2) (hs : Small st'.ks ∧ st'.ks.length = st.ks.length) : Tw w0 w5 G1 G2 gx gy (n + 1) st' := by
  have a1 : ∀ b, G1 b → ¬ F2 b := s1.apart h.y.lt h.ap
  have b4 := s1.below h.bel h.low.1
  refine ⟨hx.keep (fun b hb => s2.block b (hx.lt b hb) (a1 b hb)) s2.size, hy, fun b h1 h2 => (s2.foot b h2).elim (a1 b h1) (fun h3 => by have := hx.lt b h1; omega), ⟨s1.low h.bel.size h.low.1, s2.low b4.size h.low.2⟩, hs.1, hs.2.trans h.ln, s2.below b4 h.low.2⟩
theorem Tw.mid {w0 w w4 : World} {F1 F2 G1 : Nat → Prop} {gx gy n : Nat} {st : St} (h : Tw w0 w F1 F2 gx gy n st) (s1 : Step w w4 F1 G1) : Imp07.Imp w4 F2 gy n 1 st := h.y.keep (fun b hb => s1.block b (h.y.lt b hb) (fun h1 => h.ap b h1 hb)) s1.size
/-- A byte of a row that came in. -/
theorem byte_at {w : World} {A : Option Addr} {l : List Int} (h : Kd.C (Kd.int .u8) w A l.length l) (i : Nat) (hi : i < l.length) : ∃ ad b, A = some ad ∧ w.cell? (ad.add i) = some (.int .u8 b) ∧ b ∈ l := by
  obtain ⟨ad, c, e, _, hK, hc⟩ := Kd.C_get h (0 : Int) (i : Int) (by omega) (by omega)
  rw [Int.toNat_natCast, List.getD_eq_getElem?_getD, List.getElem?_eq_getElem hi] at hK
  have hu := hc 0 (.int .u8 l[i]) (by rw [show c = [.int .u8 l[i]] from hK]; rfl)
  refine ⟨ad, l[i], e, ?_, List.getElem_mem hi⟩
  have hu2 : w.cell? (ad.add (i * 1 + 0)) = some (.int .u8 l[i]) := hu
  rw [Nat.mul_one, Nat.add_zero] at hu2
  exact hu2
end Go.Proofs.Ytfbajampfiodeaa.LruTw
