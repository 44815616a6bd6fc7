/- lru: the keys touched last are held: has, and words for the walk. -/
import Derived.Test.YtfbajampfiodeaaLruKp
import Derived.Test.YtfbajampfiodeaaLruTw
namespace Go.Proofs.Ytfbajampfiodeaa.LruKw
open Go.RowKit Go.Proofs.Ytfbajampfiodeaa.PArrayPlays Go.Proofs.YtfbajampfiodeaaW.PrintWords Go.Proofs.YtfbajampfiodeaaW.PrintLast Go.Proofs.YtfbajampfiodeaaW.PrintMore Go.Proofs.Ytfbajampfiodeaa.Mw Go.Proofs.Ytfbajampfiodeaa.Rx Go.Proofs.Ytfbajampfiodeaa.RxOps Go.Proofs.Ytfbajampfiodeaa.RxPut Go.Proofs.Ytfbajampfiodeaa.Fresh Go.Proofs.Ytfbajampfiodeaa.RefAbs Go.Proofs.Ytfbajampfiodeaa.Hm Go.Proofs.Ytfbajampfiodeaa.First08 Go.Proofs.Ytfbajampfiodeaa.Op Go.Proofs.Ytfbajampfiodeaa.LruKp
open Go.Proofs.Ytfbajampfiodeaa.LruTw (byte_at)
set_option linter.unusedVariables false
theorem byte_is {w : World} {A : Option Addr} {l : List Int} (h : Kd.C (Kd.int .u8) w A l.length l) (i : Nat) (hi : i < l.length) : ∃ ad b, A = some ad ∧ w.cell? (ad.add i) = some (.int .u8 b) ∧ l[i]? = some b := by
  obtain ⟨ad, c, e, _, hK, hc⟩ := Kd.C_get h (0 : Int) (i : Int) (by omega) (by omega)
  rw [Int.toNat_natCast, List.getD_eq_getElem?_getD, List.getElem?_eq_getElem hi] at hK
  have hu := hc 0 (.int .u8 l[i]) (by rw [show c = [.int .u8 l[i]] from hK]; rfl)
  refine ⟨ad, l[i], e, ?_, List.getElem?_eq_getElem hi⟩
  have hu2 : w.cell? (ad.add (i * 1 + 0)) = some (.int .u8 l[i]) := hu
  rw [Nat.mul_one, Nat.add_zero] at hu2
  exact hu2
/-- A row of the call's own, read. -/
theorem own_C {w : World} {B : Nat} {V : Value} {l : List Int} (h : w.ownsRow B 5 1 V l.length (l.map (Value.int .u8))) : ∃ A c, V = .slice A l.length c ∧ l.length ≤ c ∧ Kd.C (Kd.int .u8) w A l.length l := by
  rcases h.2 with ⟨rfl, h0⟩ | ⟨b, cap, cur, rfl, hB, hb, h1, h2, h3, h4⟩
  · exact ⟨none, 0, by rw [h0], by omega, rfl, by omega, fun h => absurd h (by omega)⟩
  · rw [Nat.mul_one] at h4
    refine ⟨_, cap, rfl, h1, rowC (b := b) ⟨cur.toList.drop l.length, ?_⟩ (by unfold maxLen at h2; omega)⟩
    rw [hb, ← h4, List.take_append_drop]
theorem has_ (w : World) (A : Option Addr) (c : Nat) (l : List Int) (b : Int) (hC : Kd.C (Kd.int .u8) w A l.length l) :
    Calls Try.prog 42 #[.slice A l.length c, .int .u8 b] w fun e w' => e = .returned (.bool (decide (b ∈ l))) ∧ w = w' := by
  have HC := Lib.hid hC
  obtain ⟨n, hn⟩ : ∃ n, n = l.length := ⟨_, rfl⟩
  have HN := Lib.hid hn
  have hmax := hC.2.1
  rw [← hn] at hmax ⊢
  clear hC hn
  go_enter Try.func42, Try.ntmps42
  go_wp2
  go_loop [9] (fun i => ∃ k : Nat, k ≤ n ∧ i = .int .i64 (k : Int) ∧ Hid (∀ j, j < k → l[j]? ≠ some b)) (fun i => n - (intOf i).toNat)
  case atStart => exact ⟨0, Nat.zero_le _, rfl, Lib.hid fun j h => absurd h (by omega)⟩
  case round =>
    obtain ⟨k, hk, rfl, HS⟩ := hrel
    by_cases hlt : k < n
    · obtain ⟨ad, x, rfl, g0, hx⟩ := byte_is HC.out k (by rw [← HN.out]; exact hlt)
      by_cases hb : x = b
      · have HF : Hid (decide (b ∈ l) = true) := Lib.hid (decide_eq_true (List.mem_of_getElem? (hb ▸ hx)))
        clear hx
        subst hb
        go_wp2
        go_ret
        exact ⟨by rw [HF.out]; rfl, rfl⟩
      · have HS2 : Hid (∀ j, j < k + 1 → l[j]? ≠ some b) := Lib.hid fun j hj e => by
          by_cases e2 : j = k
          · subst e2
            rw [hx] at e
            exact hb (Option.some.inj e)
          · exact HS.out j (by omega) e
        have t0 : (x == b) = false := by simpa using hb
        clear hx HS
        go_wp2
        go_round
        case rel => exact ⟨k + 1, by omega, by go_num, HS2⟩
        case measure => simp [intOf] <;> omega
    · have HF : Hid (decide (b ∈ l) = false) := Lib.hid (decide_eq_false fun h => by
        obtain ⟨j, hj⟩ := List.mem_iff_getElem?.1 h
        exact HS.out j (by have := (List.getElem?_eq_some_iff.1 hj).1; have := HN.out; omega) hj)
      go_wp2
      go_ret
      exact ⟨by rw [HF.out]; rfl, rfl⟩
/-- The state behind the world w0. -/
structure Ks (w0 w : World) (F : Nat → Prop) (g : Nat) (key : List Int) (i m : Nat) (st : St) : Prop where
  x : Imp08.Imp w F g i 1 st
  kp : Kp key i st.ks
  ln : st.ks.length = m
  low : ∀ b, F b → w0.heap.size ≤ b
  bel : Below w0.heap.size w0 w
theorem Ks.inj {w0 w : World} {F : Nat → Prop} {g i m : Nat} {key : List Int} {st : St} (h : Ks w0 w F g key i m st) : Inj st.ks := by
  obtain ⟨bm, gk, gt, ct, V, ord, hI, _⟩ := h.x
  obtain ⟨D, _, hm⟩ := hI.map
  exact fun i j l h1 h2 => hm.inj h1 h2
theorem Ks.find {w0 w w1 : World} {F F1 : Nat → Prop} {g i m : Nat} {key : List Int} {st : St} (h : Ks w0 w F g key i m st) (hi : i % 3 = 2) (x : Int) (o : Obj) (hx : Imp08.Imp w1 F1 g (i + 1) 1 (fnd 2 1 st [x]).2) (hs : Step (w.alloc o) w1 F F1) : ∃ F st, Ks w0 w1 F g key (i + 1) m st := by
  have e : (fnd 2 1 st [x]).2.ks = st.ks := by unfold fnd; split <;> rfl
  exact ⟨F1, _, hx, by rw [e]; exact h.kp.find hi, by rw [e]; exact h.ln, hs.low (Nat.le_trans h.bel.size (by simp)) h.low, hs.below (below_alloc h.bel _) h.low⟩
theorem Ks.put {w0 w w1 : World} {F F1 : Nat → Prop} {g i m : Nat} {key : List Int} {st : St} (h : Ks w0 w F g key i m st) (hm : 0 < m) (hi : i % 3 ≠ 2) {x : Int} (hk : key[i]? = some x) (o : Obj) (hx : Imp08.Imp w1 F1 g (i + 1) 1 (put 2 1 st [x] 0).2) (hs : Step (w.alloc o) w1 F F1) : ∃ F st, Ks w0 w1 F g key (i + 1) m st := by
  refine ⟨F1, _, hx, h.kp.put h.inj (by rw [h.ln]; exact hm) hi hk, ?_, hs.low (Nat.le_trans h.bel.size (by simp)) h.low, hs.below (below_alloc h.bel _) h.low⟩
  rw [← h.ln]
  rcases (put0 st x (by rw [h.ln]; exact hm)).2 with ⟨_, e⟩ | ⟨_, r, _, e, _⟩
  · rw [e]
  · rw [e, List.length_set]
/-- The bytes put last, from the end back to p. -/
structure LastOk (key : List Int) (k p : Nat) (last : List Int) : Prop where
  nd : last.Nodup
  put : ∀ x ∈ last, Put key k x
  all : ∀ j, p ≤ j → j < k → j % 3 ≠ 2 → ∀ x, key[j]? = some x → x ∈ last
  ln : last.length + p ≤ k
theorem LastOk.start (key : List Int) (k : Nat) : LastOk key k k [] := ⟨List.nodup_nil, fun x h => (List.not_mem_nil h).elim, fun j h1 h2 => absurd h1 (by omega), by simp⟩
theorem LastOk.skip {key : List Int} {k q : Nat} {last : List Int} (h : LastOk key k (q + 1) last) (hs : q % 3 = 2 ∨ ∀ x, key[q]? = some x → x ∈ last) : LastOk key k q last := by
  refine ⟨h.nd, h.put, fun j h1 h2 h3 x hx => ?_, by have := h.ln; omega⟩
  by_cases e : j = q
  · subst e
    exact hs.elim (fun h => absurd h h3) (fun h => h x hx)
  · exact h.all j (by omega) h2 h3 x hx
theorem LastOk.add {key : List Int} {k q : Nat} {last : List Int} (h : LastOk key k (q + 1) last) (hq : q % 3 ≠ 2) {x : Int} (hx : key[q]? = some x) (hn : x ∉ last) : LastOk key k q (last ++ [x]) := by
  have hk := h.ln
  refine ⟨List.nodup_append.2 ⟨h.nd, by simp, fun a ha b hb e => ?_⟩, fun y hy => ?_, fun j h1 h2 h3 y hy => ?_, by rw [List.length_append]; simp; omega⟩
  · obtain rfl := List.mem_singleton.1 hb
    exact hn (e ▸ ha)
  · rcases List.mem_append.1 hy with hy | hy
    · exact h.put y hy
    · obtain rfl := List.mem_singleton.1 hy
      exact ⟨q, by omega, hq, hx⟩
  · by_cases e : j = q
    · subst e
      rw [hx] at hy
      cases hy
      exact List.mem_append.2 (.inr (List.mem_singleton.2 rfl))
    · exact List.mem_append.2 (.inl (h.all j (by omega) h2 h3 y hy))
/-- Where the loop has run to its end, as many are held. -/
theorem Ks.count {w0 w : World} {F : Nat → Prop} {g k m : Nat} {key last : List Int} {st : St} (h : Ks w0 w F g key k m st) (hl : LastOk key k 0 last) (hm : last.length < m) : (keys st).length = last.length :=
  h.kp.count h.inj hl.nd hl.put (fun x ⟨j, h1, h2, h3⟩ => hl.all j (Nat.zero_le _) h1 h2 x h3) (by rw [h.ln]; exact hm)
theorem Ks.rows {w0 w : World} {F : Nat → Prop} {g k m : Nat} {key : List Int} {st : St} (h : Ks w0 w F g key k m st) : (keys st).length ≤ m ∧ ∀ l ∈ keys st, ∃ x, l = [x] := by
  refine ⟨by rw [← h.ln]; exact List.length_filterMap_le _ _, fun l hl => ?_⟩
  obtain ⟨j, hj⟩ := mem_keys.1 hl
  obtain ⟨x, e, _⟩ := h.kp.sm j l hj
  exact ⟨x, e⟩
/-- One of the listed rows. -/
theorem fresh_at {w : World} {B : Nat} {v : Value} {rows : List (List Int)} (h : FreshRows w B v rows) (k : Nat) (x : Int) (hk : rows[k]? = some [x]) :
    ∃ b c b1 c1, v = .slice (some ⟨b, 0, none⟩) rows.length c ∧ w.cell? ⟨b, k, none⟩ = some (.slice (some ⟨b1, 0, none⟩) 1 c1) ∧ 1 ≤ c1 ∧ w.cell? ⟨b1, 0, none⟩ = some (.int .u8 x) := by
  obtain ⟨hkl, hke⟩ := List.getElem?_eq_some_iff.1 hk
  rcases h with ⟨_, rfl⟩ | ⟨b, c, hs, e, h1, h2, h3, h4, h5⟩
  · simp at hkl
  · have hkh : k < hs.length := by omega
    obtain ⟨b1, c1, cs, fr, e2, k1, _, _, k2⟩ := h5 k _ _ (List.getElem?_eq_getElem hkh) hk
    exact ⟨b, c, b1, c1, e, by rw [h3.cell k hkh, e2]; rfl, k1, (k2 0 x rfl).1⟩
theorem rows_slice {w : World} {B : Nat} {v : Value} {rows : List (List Int)} (h : FreshRows w B v rows) : ∃ A c, v = .slice A rows.length c ∧ rows.length ≤ c := by
  rcases h with ⟨h, rfl⟩ | ⟨b, c, hs, h, h1, _⟩
  · exact ⟨_, _, by rw [h]; rfl, Nat.le_refl _⟩
  · exact ⟨_, _, h, h1⟩
theorem sl_addr {a a' : Option Addr} {l l' c c' : Nat} (h : Value.slice a l c = .slice a' l' c') : a = a' := by injection h
theorem drewN_cell {W : World} {a : Addr} {v : Value} (n : Nat) (h : W.cell? a = some v) : (W.drewN n).cell? a = some v := h
theorem min100 (n m : Nat) (h : m = min n 100) : Builtin.min2 (.int .i64 (n : Int)) (.int .i64 100) = pure (.int .i64 (m : Int)) := by
  rw [min2_int]
  split
  · rw [show (m : Int) = 100 by omega]
  · rw [show (m : Int) = (n : Int) by omega]
theorem info5 : (Try.prog.info? 5).map (fun i => (i.zero, i.size, i.bytes)) = some (some (.int .u8 0), 1, 1) := by kernel_rfl
end Go.Proofs.Ytfbajampfiodeaa.LruKw
