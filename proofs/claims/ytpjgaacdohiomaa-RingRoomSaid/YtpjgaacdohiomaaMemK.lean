/- mem.Memory: Kill, walked by hand. -/
import Derived.Test.YtpjgaacdohiomaaMemQ
namespace Go.Proofs.Ytpjgaacdohiomaa.MemK
open Go.RowKit Go.Proofs.Ytpjgaacdohiomaa.PMemCopies Go.Proofs.YtpjgaacdohiomaaW.PrintWords Go.Proofs.YtpjgaacdohiomaaW.PrintLast Go.Proofs.YtpjgaacdohiomaaW.PrintMore Go.Proofs.Ytpjgaacdohiomaa.Mw Go.Proofs.Ytpjgaacdohiomaa.Mem1 Go.Proofs.Ytpjgaacdohiomaa.Mem2 Go.Proofs.Ytpjgaacdohiomaa.Mem3 Go.Proofs.Ytpjgaacdohiomaa.Mem4 Go.Proofs.Ytpjgaacdohiomaa.Mem6 Go.Proofs.Ytpjgaacdohiomaa.MemA Go.Proofs.Ytpjgaacdohiomaa.MemB
set_option linter.unusedVariables false
set_option linter.unusedSimpArgs false
def killQ (rs : List Rg) (id : Int) : Int × List Rg := match MemQ.idQ rs id with | none => (14, rs) | some _ => (0, rs.eraseIdx (rs.findIdx (MemQ.isIdQ id)))
theorem k_facts (k n : Nat) (h : k < n) (hn : n ≤ 4096) : ∃ K1 : Int, IntKind.i64.wrap ((k : Int) + 1) = K1 ∧ 0 ≤ K1 ∧ K1 ≤ (n : Int) ∧ K1.toNat = k + 1 := ⟨(k : Int) + 1, by rw [IntKind.wrap_i64]; omega, by omega, by omega, by omega⟩
section
variable {w : World} {F : Nat → Prop} {g : Nat} {es : List Ent} {nx : Int}
theorem get_erase {es : List Ent} {k i : Nat} {e : Ent} (h : (es.eraseIdx k)[i]? = some e) : es[if i < k then i else i + 1]? = some e := by
  rw [List.getElem?_eraseIdx] at h
  split at h
  · rename_i hi; rw [if_pos hi]; exact h
  · rename_i hi; rw [if_neg hi]; exact h
theorem kill_done {W' : World} {k bl bl' n' cap cap' : Nat} {ao ao' : Option Addr} (h : MIx w F g es nx) (hk : k < es.length) (hL : LiveV w F ao bl es.length cap es) (hst : Step w W' (fun b => 0 < cap ∧ b = bl) (fun b => b = bl')) (hc : Came W' 1 ao' bl' 0 n' cap' ((es.eraseIdx k).map ptr)) (hb : ∃ cs, W'.heap[bl']? = some (.cells cs 92 (0, 0))) (hn' : n' = (es.eraseIdx k).length) (hbl : F bl' ∨ w.heap.size ≤ bl') :
    MIx (W'.setCell ⟨g, 0, none⟩ (.slice ao' n' cap')) (fun b => F b ∨ b = bl') g (es.eraseIdx k) nx ∧ Step w (W'.setCell ⟨g, 0, none⟩ (.slice ao' n' cap')) F (fun b => F b ∨ b = bl') := by
  subst hn'
  obtain ⟨cs', hb'⟩ := hb
  have hgl : g < w.heap.size := h.lt g h.inF
  obtain ⟨ao0, bl0, cap0, hself, -⟩ := h.self
  have hg0 := blk_cell hself 0
  have nbl : ∀ b, b < w.heap.size → ¬ (0 < cap ∧ b = bl) → W'.heap[b]? = w.heap[b]? := fun b hb hn => hst.block b hb hn
  have hglW : ¬ (0 < cap ∧ g = bl) := fun ⟨hc, hg⟩ => by
    obtain ⟨-, cs, hb⟩ := hL.blk hc
    rw [hg] at hself
    exact blk_ne hself hb (by decide) rfl
  have hg' := (nbl g hgl hglW).trans hself
  have hgne : bl' ≠ g := blk_ne hb' hg' (by decide)
  have keepR : ∀ e' : Ent, RegAt w F e' → ∀ b, newF e' b → (W'.setCell ⟨g, 0, none⟩ (.slice ao' (es.eraseIdx k).length cap')).heap[b]? = w.heap[b]? := fun e' hR b hb => by
    have hF := hR.inNew hb
    have hlt := h.lt b hF
    have hng := newF_ne hR hself (by decide) hb
    have hnb : ¬ (0 < cap ∧ b = bl) := fun ⟨hc, hbb⟩ => by
      obtain ⟨-, cs, hb2⟩ := hL.blk hc
      exact newF_ne hR hb2 (by decide) hb hbb
    exact (Below.heap_setCell W' ⟨g, 0, none⟩ _ b hng).trans (nbl b hlt hnb)
  have szW : (W'.setCell ⟨g, 0, none⟩ (.slice ao' (es.eraseIdx k).length cap')).heap.size = W'.heap.size := by simp [World.setCell]
  have hsz := hst.size
  refine ⟨⟨⟨ao', bl', cap', ?_, ?_, ?_⟩, ?_, ?_, .inl h.inF, ?_, ?_, ?_, ?_, h.nx0, ?_⟩, ?_⟩
  · have := heap_setCell_at (i := 0) (v := .slice ao' (es.eraseIdx k).length cap') hg'
    exact this
  · exact Came.keep hc (fun _ => Below.heap_setCell W' ⟨g, 0, none⟩ _ bl' hgne) (by rw [szW]; exact Nat.le_refl _)
  · exact fun _ => ⟨.inr rfl, cs', heap_setCell_old hb' hgne⟩
  · intro i e' hi
    have hR := h.regs _ e' (get_erase hi)
    exact hR.mono (keepR e' hR) (fun b hb => .inl hb)
  · intro i j e1 e2 h1 h2 hij
    exact h.apart _ _ e1 e2 (get_erase h1) (get_erase h2) (by split <;> split <;> omega)
  · intro b hb
    rw [szW]
    rcases hb with hb | rfl
    · have := h.lt b hb; omega
    · exact blk_lt hb'
  · intro i e' hi
    exact h.ids _ e' (get_erase hi)
  · intro i j e1 e2 h1 h2 hij
    exact h.idn _ _ e1 e2 (get_erase h1) (get_erase h2) (by split <;> split <;> omega)
  · intro i j e1 e2 h1 h2 hij
    exact h.dis _ _ e1 e2 (get_erase h1) (get_erase h2) (by split <;> split <;> omega)
  · have := h.len
    rw [List.length_eraseIdx]
    split <;> omega
  · refine ⟨hst.os, hst.tape, hst.output, by rw [szW]; exact hsz, fun b hb hF => ?_, fun b hb => ?_⟩
    · have hng : b ≠ g := fun e => hF (e ▸ h.inF)
      exact (Below.heap_setCell W' ⟨g, 0, none⟩ _ b hng).trans (nbl b hb fun ⟨hc, hbb⟩ => hF (hbb ▸ (hL.blk hc).1))
    · rcases hb with hb | rfl
      · exact .inl hb
      · exact hbl
/-- The slice ahead of the k-th, cut to its length. -/
theorem cut_came {ao : Option Addr} {bl cap k : Nat} (hL : LiveV w F ao bl es.length cap es) (hk : k < es.length) (W : World) (hW : ∀ b : Nat, W.heap[b]? = w.heap[b]?) (hs : W.heap.size = w.heap.size) : Came W 1 (some ⟨bl, 0, none⟩) bl 0 k k ((es.take k).map ptr) := by
  have hle := hL.came.le
  have hcap : 0 < cap := by omega
  refine ⟨Nat.le_refl _, fun _ => rfl, fun _ => by rw [hs]; exact hL.came.lt hcap, by simp; omega, fun j u hj => ?_, fun j hj => absurd hj (by simp)⟩
  have hjl : j < k := by have := (List.getElem?_eq_some_iff.1 hj).1; simp at this; omega
  rw [World.cell?_of_block (w := w) (a := ⟨bl, 0 + j, none⟩) (hW bl)]
  refine hL.came.olds j u ?_
  rw [List.getElem?_map, List.getElem?_take_of_lt hjl] at hj
  rw [List.getElem?_map]
  exact hj
theorem cut_src {ao : Option Addr} {bl cap k c : Nat} (hL : LiveV w F ao bl es.length cap es) (hk : k < es.length) (W : World) (hW : ∀ b : Nat, W.heap[b]? = w.heap[b]?) : Src Try.prog 1 89 (.slice (some ⟨bl, k + 1, none⟩) (es.length - (k + 1)) c) (es.length - (k + 1)) ((es.drop (k + 1)).map ptr) W :=
  Src.ofSlice W Try.underlying89 ⟨bl, k + 1, none⟩ (es.length - (k + 1)) c _ (by simp) (fun j u hj => by
    have e1 : (⟨bl, k + 1, none⟩ : Addr).add j = ⟨bl, k + 1 + j, none⟩ := by unfold Addr.add; split <;> simp_all
    rw [e1, World.cell?_of_block (w := w) (a := ⟨bl, k + 1 + j, none⟩) (hW bl)]
    rw [List.getElem?_map, List.getElem?_drop] at hj
    have := hL.came.olds (k + 1 + j) u (by rw [List.getElem?_map]; exact hj)
    rwa [Nat.zero_add] at this) (fun u hu => by obtain ⟨e, _, rfl⟩ := List.mem_map.1 hu; rfl)
theorem erase_map (k : Nat) (hk : k < es.length) : (es.take k).map ptr ++ (es.drop (k + 1)).map ptr = (es.eraseIdx k).map ptr := by
  rw [← List.map_append, List.eraseIdx_eq_take_drop_succ]
/-- What the append of the two cuts left. -/
structure KillD (w W' : World) (F : Nat → Prop) (g : Nat) (es : List Ent) (nx : Int) (k : Nat) (bl cap : Nat) (ao' : Option Addr) (bl' n' cap' : Nat) : Prop where
  step : Step w W' (fun b => 0 < cap ∧ b = bl) (fun b => b = bl')
  came : Came W' 1 ao' bl' 0 n' cap' ((es.eraseIdx k).map ptr)
  blk : ∃ cs, W'.heap[bl']? = some (.cells cs 92 (0, 0))
  len : n' = (es.eraseIdx k).length
  foot : F bl' ∨ w.heap.size ≤ bl'
theorem cut_run {ao : Option Addr} {bl cap k nn : Nat} (h : MIx w F g es nx) (hL : LiveV w F ao bl nn cap es) (hn : nn = es.length) (hk : k < nn) (A : Addr) (c : Nat) (hA : A = ⟨bl, k + 1, none⟩ ∨ k + 1 = nn) (ty : TypeId) :
    ∃ ao' bl' n' cap' W', (Builtin.append_ #[89, 89] ty #[.slice (some ⟨bl, 0, none⟩) k k, .slice (some A) (nn - (k + 1)) c]).run Try.prog w.drew = .ok (.slice ao' n' cap') W' ∧ KillD w W' F g es nx k bl cap ao' bl' n' cap' := by
  subst hn
  obtain ⟨i, hi, hz, hs1, hb1⟩ := info_parts (P := Try.prog) (e := 92) (z := .pointer none) (size := 1) (bytes := 8) (by kernel_rfl)
  have hcap : 0 < cap := by have := hL.came.le; omega
  have hcm := cut_came hL hk w.drew (fun _ => rfl) rfl
  have hlen := h.len
  have hel : (es.eraseIdx k).length = es.length - 1 := by rw [List.length_eraseIdx, if_pos hk]
  by_cases hl : k + 1 = es.length
  · have hdrop : es.drop (k + 1) = [] := List.drop_eq_nil_of_le (by omega)
    have hm := erase_map (es := es) k hk
    rw [hdrop] at hm
    have hm : (es.take k).map ptr = (es.eraseIdx k).map ptr := by simpa using hm
    have h0 : es.length - (k + 1) = 0 := by omega
    rw [h0]
    have hs : Src Try.prog 1 89 (.slice (some A) 0 c) 0 [] w.drew := Src.ofSlice w.drew Try.underlying89 A 0 c [] rfl (fun j u hj => by simp at hj) (fun u hu => by simp at hu)
    rw [← hs1] at hs
    refine ⟨some ⟨bl, 0, none⟩, bl, k, k, w.drew, run_append_nothing (P := Try.prog) w.drew 89 89 ty 92 i Try.underlying89 hi (some ⟨bl, 0, none⟩) k k (Nat.le_refl _) _ hs, ⟨((Step.refl w _).drew).to (fun b hb => .inl ⟨hcap, hb⟩), hm ▸ hcm, (hL.blk hcap).2, by omega, .inl (hL.blk hcap).1⟩⟩
  · obtain rfl : A = ⟨bl, k + 1, none⟩ := hA.resolve_right hl
    have hs := cut_src (c := c) hL hk w.drew (fun _ => rfl)
    obtain ⟨bl', cap', W', hrun, hD⟩ := append_grow hcm Try.underlying89 (.pointer none) rfl ⟨i, hi, hz, hs1, by omega⟩ ty _ _ _ hs (by omega) (by omega)
    refine ⟨_, _, _, _, W', hrun, ⟨?_, ?_, hD.blk, by omega, ?_⟩⟩
    · exact ⟨hD.step.os, hD.step.tape, hD.step.output, hD.step.size, fun b hb hn => hD.step.block b hb (fun ⟨_, e⟩ => hn ⟨hcap, e⟩), fun b hb => (hD.step.foot b hb).imp (fun ⟨_, e⟩ => ⟨hcap, e⟩) id⟩
    · have := hD.came
      rwa [erase_map k hk] at this
    · rcases hD.step.foot bl' rfl with ⟨_, e⟩ | hge
      · exact .inl (e ▸ (hL.blk hcap).1)
      · exact .inr hge
theorem cut_last {ao : Option Addr} {bl cap k nn : Nat} (h : MIx w F g es nx) (hL : LiveV w F ao bl nn cap es) (hn : nn = es.length) (hk : k < nn) (hl : k + 1 = nn) : KillD w w.drew F g es nx k bl cap (some ⟨bl, 0, none⟩) bl k k := by
  subst hn
  have hcap : 0 < cap := by have := hL.came.le; omega
  have hcm := cut_came hL hk w.drew (fun _ => rfl) rfl
  have hel : (es.eraseIdx k).length = es.length - 1 := by rw [List.length_eraseIdx, if_pos hk]
  have hdrop : es.drop (k + 1) = [] := List.drop_eq_nil_of_le (by omega)
  have hm := erase_map (es := es) k hk
  rw [hdrop] at hm
  have hm : (es.take k).map ptr = (es.eraseIdx k).map ptr := by simpa using hm
  exact ⟨((Step.refl w _).drew).to (fun b hb => .inl ⟨hcap, hb⟩), hm ▸ hcm, (hL.blk hcap).2, by omega, .inl (hL.blk hcap).1⟩
theorem step_cut {ops : Array Oper} {o : Oper} {a : Act} {K : Act → World → Prop} {Q : Exit → Act → World → Prop} {E : Prop} {ao : Option Addr} {bl cap k nn : Nat} {A : Addr} {c : Nat}
    (h : MIx w F g es nx) (hL : LiveV w F ao bl nn cap es) (hn : nn = es.length) (hk : k < nn) (hA : A = ⟨bl, k + 1, none⟩ ∨ k + 1 = nn)
    (hg : o.guard = none) (s x : Operand) (hop : o.op = Op.call { callee := Callee.builtin Builtin.append, args := #[s, x], argTypes := #[89, 89] })
    (hs : a.eval s = .slice (some ⟨bl, 0, none⟩) k k) (hx : a.eval x = .slice (some A) (nn - (k + 1)) c)
    (hK : ∀ ao' bl' n' cap' W', Hid (KillD w W' F g es nx k bl cap ao' bl' n' cap') → (∃ u, W'.cell? ⟨g, 0, none⟩ = some u) → W'.frozen? ⟨g, 0, none⟩ = false → K (a.put o.dst (.slice ao' n' cap')) W') :
    if Region.wanted o (yielded ops a.tmps) = true then Oper.wp Try.prog o a w.drew K Q else E := by
  obtain ⟨ao', bl', n', cap', W', hrun, hD⟩ := cut_run h hL hn hk A c hA o.type
  refine step_append hg s x _ _ hop hs hx hrun (hK ao' bl' n' cap' W' (Lib.hid hD) ?_ ?_)
  all_goals
    obtain ⟨ao0, bl0, cap0, hself, -⟩ := h.self
    have hg' : W'.heap[g]? = _ := (hD.step.block g (h.lt g h.inF) (fun ⟨hc, hgb⟩ => by
      obtain ⟨-, cs, hb⟩ := hL.blk hc
      rw [hgb] at hself
      exact blk_ne hself hb (by decide) rfl)).trans hself
  · exact ⟨_, (blk_cell hg' 0).trans rfl⟩
  · exact blk_frozen hg' 0
set_option maxRecDepth 100000 in
set_option maxHeartbeats 8000000 in
theorem Kill_go (h : MIx w F g es nx) (id : Int) :
    Calls Try.prog 21 #[.pointer (some ⟨g, 0, none⟩), .int .i64 id] w fun e w' =>
      (idE es id = none → e = .returned (.int .i64 14) ∧ w = w') ∧
      (∀ k e0, es[k]? = some e0 → es.findIdx (isId id) = k → isId id e0 = true → e = .returned (.int .i64 0) ∧ ∃ F', MIx w' F' g (es.eraseIdx k) nx ∧ Step w w' F F') := by
  obtain ⟨ao, bl, cap, g0, g1, gf, hc, hL⟩ := h.cells
  have hlen := h.len
  have HL := Lib.hid hL
  have H := Lib.hid h
  obtain ⟨nn, hnn⟩ : ∃ nn, nn = es.length := ⟨_, rfl⟩
  have HN := Lib.hid hnn
  rw [← hnn] at g0 hc hlen
  clear h g1 hL hnn
  go_enter Try.func21, Try.ntmps21
  go_wp2
  go_loop [14] (fun i => ∃ k : Nat, k ≤ nn ∧ i = .int .i64 (k : Int) ∧ Hid (idE es id = (es.drop k).find? (isId id) ∧ ∀ j, j < k → ∀ e, es[j]? = some e → isId id e = false)) (fun i => nn - (intOf i).toNat)
  case atStart => exact ⟨0, Nat.zero_le _, rfl, Lib.hid ⟨rfl, fun j hj => absurd hj (Nat.not_lt_zero _)⟩⟩
  case round =>
    obtain ⟨k, hk, rfl, HS⟩ := hrel
    by_cases hlt : k < nn
    · obtain ⟨e, hi⟩ : ∃ e, es[k]? = some e := ⟨_, List.getElem?_eq_getElem (by rw [← HN.out]; exact hlt)⟩
      obtain ⟨rfl, ge⟩ := HL.out.at_ hi
      obtain ⟨cb, sv, r0, r1, r2, r3, r4, hcb, hsv⟩ := (H.out.regs k e hi).cells
      have hfd := find_drop (isId id) es k e hi
      clear r1 r2 r3 r4 hsv
      by_cases c1 : e.r.id = id
      · have HT : Hid (isId id e = true) := Lib.hid (decide_eq_true c1)
        have b1 : (e.r.id == id) = true := by simpa using c1
        have HI := Lib.hid hi
        clear hfd c1 hi
        obtain ⟨K1, hw, w1, w2, w3⟩ := k_facts k nn hlt hlen
        have hkc : (k : Int) ≤ (cap : Int) := by omega
        have hk0 : (0 : Int) ≤ (k : Int) := by omega
        have HLN : Hid (LiveV w F (some ⟨bl, 0, none⟩) bl nn cap es) := Lib.hid (by rw [HN.out]; exact HL.out)
        have HFI : Hid (∀ k' e0, es[k']? = some e0 → es.findIdx (isId id) = k' → isId id e0 = true → k' = k) := Lib.hid (fun k' e0 h1 h2 h3 => by
          have hkl : k < es.length := by rw [← HN.out]; exact hlt
          rw [← h2]
          refine (List.findIdx_eq hkl).2 ⟨?_, fun j hj => HS.out.2 j hj _ (List.getElem?_eq_getElem (by omega))⟩
          have := (List.getElem?_eq_some_iff.1 HI.out).2
          rw [this]; exact HT.out)
        have HNO : Hid (idE es id ≠ none) := Lib.hid (by
          rw [HS.out.1, List.drop_eq_getElem_cons (by rw [← HN.out]; exact hlt), List.find?_cons]
          have := (List.getElem?_eq_some_iff.1 HI.out).2
          rw [this, HT.out]; simp)
        clear HS
        by_cases hcap : cap = k + 1
        · have hl : k + 1 = nn := by omega
          go_wp2
          have HD := Lib.hid (cut_last H.out HLN.out HN.out hlt hl)
          go_region
          all_goals
            go_wp2
            go_ret
            refine ⟨fun h => absurd h HNO.out, fun k' e0 h1 h2 h3 => ⟨rfl, ?_⟩⟩
            obtain rfl := HFI.out k' e0 h1 h2 h3
            have hL2 := HLN.out
            rw [HN.out] at hL2
            exact ⟨_, kill_done H.out (by rw [← HN.out]; exact hlt) hL2 HD.out.step HD.out.came HD.out.blk HD.out.len HD.out.foot⟩
        · go_wp2
          go_region_law (refine step_cut (A := ⟨bl, k + 1, none⟩) H.out HLN.out HN.out hlt (Or.inl rfl) rfl _ _ rfl rfl rfl ?_; rintro ao' bl' n' cap' W' HD ⟨u, hu⟩ hf)
          all_goals
            go_wp2
            go_ret
            refine ⟨fun h => absurd h HNO.out, fun k' e0 h1 h2 h3 => ⟨rfl, ?_⟩⟩
            rename Hid (KillD _ _ _ _ _ _ _ _ _ _ _ _ _) => HD
            obtain rfl := HFI.out k' e0 h1 h2 h3
            have hL2 := HLN.out
            rw [HN.out] at hL2
            exact ⟨_, kill_done H.out (by rw [← HN.out]; exact hlt) hL2 HD.out.step HD.out.came HD.out.blk HD.out.len HD.out.foot⟩
      · have HS2 : Hid (idE es id = (es.drop (k + 1)).find? (isId id) ∧ ∀ j, j < k + 1 → ∀ e, es[j]? = some e → isId id e = false) := Lib.hid ⟨by rw [HS.out.1, hfd, show isId id e = false from decide_eq_false c1]; rfl, fun j hj e' he => by
          by_cases hjk : j = k
          · subst hjk
            obtain rfl : e = e' := Option.some.inj (hi.symm.trans he)
            exact decide_eq_false c1
          · exact HS.out.2 j (by omega) e' he⟩
        have b1 : (e.r.id == id) = false := by simpa using c1
        clear hfd HS c1
        go_wp2
        go_round
        case rel => exact ⟨k + 1, by omega, by go_num, HS2⟩
        case measure => simp [intOf]; omega
    · have HV : Hid (idE es id = none) := Lib.hid (by rw [HS.out.1, List.drop_eq_nil_of_le (by rw [← HN.out]; omega)]; rfl)
      go_wp2
      go_ret
      exact ⟨fun _ => ⟨rfl, rfl⟩, fun k' e0 h1 _ h2 => absurd (HS.out.2 k' (by have := (List.getElem?_eq_some_iff.1 h1).1; rw [← HN.out] at this; omega) e0 h1) (by rw [h2]; simp)⟩
open MemQ in
theorem q_kill {rs : List Rg} (h : MQ w F g rs nx) (id : Int) :
    Calls Try.prog 21 #[.pointer (some ⟨g, 0, none⟩), .int .i64 id] w fun e w' => e = .returned (.int .i64 (killQ rs id).1) ∧ ∃ F', MQ w' F' g (killQ rs id).2 nx ∧ Step w w' F F' := by
  obtain ⟨es, rfl, h⟩ := h
  unfold killQ
  rw [← MemQ.id_eq]
  cases hi : idE es id with
  | none =>
    simp only [Option.map_none]
    refine (Kill_go h id).mono fun x w' hh => ?_
    obtain ⟨e1, e2⟩ := hh.1 hi
    exact ⟨e1, F, e2 ▸ ⟨es, rfl, h⟩, e2 ▸ Step.refl _ _⟩
  | some e =>
    simp only [Option.map_some]
    have e1 : (es.map (·.r)).findIdx (isIdQ id) = es.findIdx (isId id) := by rw [List.findIdx_map]; rfl
    rw [e1]
    obtain ⟨hp, i, hil, he, hm⟩ := List.find?_eq_some_iff_getElem.1 hi
    have hfi : es.findIdx (isId id) = i := (List.findIdx_eq hil).2 ⟨by rw [he]; exact hp, fun j hj => by simpa using hm j hj⟩
    rw [hfi]
    refine (Kill_go h id).mono fun x w' hh => ?_
    obtain ⟨e2, F', e3, e4⟩ := hh.2 i e (by rw [List.getElem?_eq_getElem hil, he]) hfi hp
    exact ⟨e2, F', ⟨_, by rw [List.eraseIdx_eq_take_drop_succ, List.eraseIdx_eq_take_drop_succ, List.map_append, List.map_take, List.map_drop], e3⟩, e4⟩
end
end Go.Proofs.Ytpjgaacdohiomaa.MemK
