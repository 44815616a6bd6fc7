/- ring: as many records as may be, walked by hand. -/
import Derived.Test.YtpjgaacdohiomaaRingG
namespace Go.Proofs.Ytpjgaacdohiomaa.RingRoom
open Go.RowKit Go.Proofs.Ytpjgaacdohiomaa.PMemCopies Go.Proofs.YtpjgaacdohiomaaW.PrintWords Go.Proofs.YtpjgaacdohiomaaW.PrintLast Go.Proofs.YtpjgaacdohiomaaW.PrintMore Go.Proofs.Ytpjgaacdohiomaa.Mw Go.Proofs.Ytpjgaacdohiomaa.Mem1 Go.Proofs.Ytpjgaacdohiomaa.Mem3 Go.Proofs.Ytpjgaacdohiomaa.Mem7 Go.Proofs.Ytpjgaacdohiomaa.MemB Go.Proofs.Ytpjgaacdohiomaa.MemC Go.Proofs.Ytpjgaacdohiomaa.MemQ Go.Proofs.Ytpjgaacdohiomaa.MemK Go.Proofs.Ytpjgaacdohiomaa.RingA Go.Proofs.Ytpjgaacdohiomaa.RingB Go.Proofs.Ytpjgaacdohiomaa.RingF Go.Proofs.Ytpjgaacdohiomaa.RingG
set_option linter.unusedVariables false
set_option linter.unusedSimpArgs false
theorem place_bound (k : Nat) (hk : k < 8) : 0 < place k ∧ place k < 18446744073709551616 := by unfold place; omega
theorem sz_fact (x : Int) (h : 0 ≤ x) : IntKind.u64.wrap (x.tmod 64 + 1) = x.tmod 64 + 1 ∧ 1 ≤ x.tmod 64 + 1 ∧ x.tmod 64 + 1 ≤ 64 := by
  have e : x.tmod 64 = x % 64 := Int.tmod_eq_emod_of_nonneg h
  rw [e, IntKind.wrap_u64]
  omega
theorem num_is {w : World} {A : Option Addr} {l : List Int} {n : Nat} (h : Kd.C (Kd.int .u64) w A n l) (i : Nat) (hi : i < n) : ∃ ad b, A = some ad ∧ w.cell? (ad.add i) = some (.int .u64 b) ∧ b ∈ l := by
  obtain ⟨h1, _, h3⟩ := h
  obtain ⟨ad, h4, h5⟩ := h3 (by omega)
  have hil : i < l.length := by omega
  obtain ⟨cs, q1, q2, q3⟩ := h5 i l[i] (List.getElem?_eq_getElem hil)
  have hK : cs = [Value.int .u64 l[i]] := q2
  subst hK
  have this : w.cell? (ad.add (i * 1 + 0)) = some (.int .u64 l[i]) := q3 0 _ rfl
  rw [Nat.mul_one, Nat.add_zero] at this
  exact ⟨ad, l[i], h4, this, List.getElem_mem _⟩
set_option maxRecDepth 100000 in
set_option maxHeartbeats 4000000 in
theorem law_calls (A : Option Addr) (xs : List Int) (c : Nat) (o : Int) (w : World) (hx : Kd.C (Kd.int .u64) w A xs.length xs) (hc : xs.length ≤ c) (hcm : c ≤ 9223372036854775807) (hxb : ∀ x ∈ xs, 0 ≤ x ∧ x < 18446744073709551616) (ho : 0 ≤ o ∧ o < 18446744073709551616) :
    Calls Try.prog 9 #[.slice A xs.length c, .int .u64 o] w fun e w' => e = .returned (.bool true) ∧ Below w.heap.size w w' := by
  have HX := Lib.hid hx
  have HXB := Lib.hid hxb
  have HO := Lib.hid ho
  clear hx hxb ho
  obtain ⟨nn, hnn⟩ : ∃ nn : Nat, nn = xs.length := ⟨_, rfl⟩
  have HN := Lib.hid hnn
  rw [← hnn] at hc HX ⊢
  clear hnn
  go_enter Try.func9, Try.ntmps9
  go_wp2_with fail
  refine (first_calls _).mono ?_
  rintro e w1 ⟨rfl, hB⟩
  have HB := Lib.hid hB
  clear hB
  go_wp2_with fail
  refine (q_new _).mono ?_
  rintro e w2 ⟨F, gm, rfl, hM, hF, hB⟩
  have HF := Lib.hid hF; have HB2 := Lib.hid (HB.out.trans (hB.mono HB.out.size))
  have HF2 : Hid (∀ b, F b → w.heap.size ≤ b) := Lib.hid (fun b hb => Nat.le_trans HB.out.size (hF b hb))
  have HC := Lib.hid (New_ring hM)
  clear hM hF hB HB HF
  go_wp2_with fail
  refine HC.out.mono ?_
  rintro e w3 ⟨F', g, rfl, hR, hF, hB⟩
  have HS : Hid (RoomS w w3 g gm (.slice none 0 0) 0 0) := Lib.hid ⟨F', [], hR, fun b hb => (hF b hb).elim (Nat.le_trans HB2.out.size) (HF2.out b), HB2.out.trans (hB.mono HB2.out.size), ⟨rfl, fun j hj => by omega⟩, World.ownsRow_nil _ _ _ _, fun b hb => by simp [Value.ownBlock] at hb⟩
  clear hR hF hB HC HB2 HF2
  go_wp2
  go_loopw [7, 8] (fun u i wr => ∃ k : Nat, k ≤ 8 ∧ i = .int .i64 (k : Int) ∧ Hid (RoomS w wr g gm u k k)) (fun _ i _ => 8 - (intOf i).toNat)
  case atStart => exact ⟨0, by omega, rfl, HS⟩
  case round =>
    clear HS
    obtain ⟨k, hk, rfl, HS⟩ := hrel
    by_cases hk8 : k < 8
    · have HPB := Lib.hid (place_bound k hk8)
      have hgo : ∃ s : Int, Hid ((1 ≤ s ∧ s ≤ 64) ∧ ((k < nn ∧ ∃ ad x, A = some ad ∧ wr.cell? (ad.add k) = some (.int .u64 x) ∧ IntKind.u64.wrap (x.tmod 64 + 1) = s) ∨ (¬ k < nn ∧ s = 8))) := by
        by_cases hlt : k < nn
        · obtain ⟨ad, x, e1, e2, e3⟩ := num_is HX.out k hlt
          obtain ⟨F, rs, _, _, hB, _⟩ := HS.out
          have := sz_fact x (HXB.out x e3).1
          exact ⟨x.tmod 64 + 1, Lib.hid ⟨this.2, .inl ⟨hlt, ad, x, e1, old hB e2, this.1⟩⟩⟩
        · exact ⟨8, Lib.hid ⟨by omega, .inr ⟨hlt, rfl⟩⟩⟩
      obtain ⟨s, HSS⟩ := hgo
      rcases HSS.out.2 with ⟨hlt, ad, x, rfl, e2, e3⟩ | ⟨hlt, rfl⟩
      · go_wp2_with fail
        clear e2 e3
        refine (room_reserve HS.out hk8 s HSS.out.1).mono ?_
        rintro e w5 ⟨rfl, hS⟩
        have HS5 := Lib.hid hS
        obtain ⟨so, sc, rfl, hsc, hat⟩ := room_at hS
        have HAT := Lib.hid hat
        have HSC := Lib.hid hsc
        have HP0 : Hid ((place k == 0) = false) := Lib.hid (by rw [beq_eq_false_iff_ne]; have := HPB.out; omega)
        have hp0 := HP0.out
        clear hS hat hsc HS HSS HP0
        have HNE : Hid (∀ m : Nat, m < k → (place k == place m) = false) := Lib.hid (fun m hm => by rw [beq_eq_false_iff_ne]; unfold place; omega)
        obtain ⟨p, hp⟩ : ∃ p, p = place k := ⟨_, rfl⟩
        have HPK := Lib.hid hp
        rw [← hp] at hp0 HNE HPB ⊢
        clear hp
        go_wp2_with fail
        refine (room_open HS5.out (by omega)).mono ?_
        rintro e w6 ⟨rfl, rfl⟩
        have n1 : wrap64 ((k : Int) + 1) = (k : Int) + 1 := by unfold wrap64; omega
        have n2 : ((k + 1 : Nat) : Int) = (k : Int) + 1 := by omega
        rw [n2]
        clear n2
        go_wp2
        go_loopw [65] (fun j wr => ∃ m : Nat, m ≤ k ∧ j = .int .i64 (m : Int) ∧ w5 = wr) (fun j _ => k - (intOf j).toNat)
        case atStart => exact ⟨0, Nat.zero_le _, rfl, rfl⟩
        case round =>
          obtain ⟨m, hm, rfl, rfl⟩ := hrel
          by_cases hmk : m < k
          · obtain ⟨bl, rfl, e0⟩ := HAT.out m hmk
            have hne := HNE.out m hmk
            have hsc := HSC.out
            have n3 : wrap64 ((m : Int) + 1) = (m : Int) + 1 := by unfold wrap64; omega
            generalize place m = pm at e0 hne
            go_wp2
            case roundEnd => exact ⟨⟨m + 1, by omega, by go_num, trivial⟩, by simp [intOf]; omega⟩
          · go_wp2_with (at_builtin; refine Stand.out ?_)
            refine ⟨?_⟩
            have hown : w5.ownsRow 0 22 1 (.slice so k sc) k ((List.range k).map fun j => Value.int .u64 (place j)) := by
              obtain ⟨F, rs, q1, q2, q3, q4, q5, q6⟩ := HS5.out
              exact q5
            refine wpList_u64 hown rfl (by omega) rfl _ _ rfl rfl rfl ?_
            intro bl' cap' W' HA
            have HS6 : Hid (RoomS w W' g gm (.slice (some ⟨bl', 0, none⟩) (k + 1 : Nat) cap') (k + 1) (k + 1)) := Lib.hid (room_append HS5.out (by rw [← HPK.out]; exact HA.out))
            clear HS5 HA hown
            go_wp2
            case roundEnd => exact ⟨⟨k + 1, by omega, by go_num, HS6⟩, by simp [intOf]; omega⟩
      · go_wp2_with fail
        obtain ⟨s, hs⟩ : ∃ s : Int, s = 8 := ⟨_, rfl⟩
        rw [← hs] at HSS ⊢
        clear hs
        refine (room_reserve HS.out hk8 s HSS.out.1).mono ?_
        rintro e w5 ⟨rfl, hS⟩
        have HS5 := Lib.hid hS
        obtain ⟨so, sc, rfl, hsc, hat⟩ := room_at hS
        have HAT := Lib.hid hat
        have HSC := Lib.hid hsc
        have HP0 : Hid ((place k == 0) = false) := Lib.hid (by rw [beq_eq_false_iff_ne]; have := HPB.out; omega)
        have hp0 := HP0.out
        clear hS hat hsc HS HSS HP0
        have HNE : Hid (∀ m : Nat, m < k → (place k == place m) = false) := Lib.hid (fun m hm => by rw [beq_eq_false_iff_ne]; unfold place; omega)
        obtain ⟨p, hp⟩ : ∃ p, p = place k := ⟨_, rfl⟩
        have HPK := Lib.hid hp
        rw [← hp] at hp0 HNE HPB ⊢
        clear hp
        go_wp2_with fail
        refine (room_open HS5.out (by omega)).mono ?_
        rintro e w6 ⟨rfl, rfl⟩
        have n1 : wrap64 ((k : Int) + 1) = (k : Int) + 1 := by unfold wrap64; omega
        have n2 : ((k + 1 : Nat) : Int) = (k : Int) + 1 := by omega
        rw [n2]
        clear n2
        go_wp2
        go_loopw [65] (fun j wr => ∃ m : Nat, m ≤ k ∧ j = .int .i64 (m : Int) ∧ w5 = wr) (fun j _ => k - (intOf j).toNat)
        case atStart => exact ⟨0, Nat.zero_le _, rfl, rfl⟩
        case round =>
          obtain ⟨m, hm, rfl, rfl⟩ := hrel
          by_cases hmk : m < k
          · obtain ⟨bl, rfl, e0⟩ := HAT.out m hmk
            have hne := HNE.out m hmk
            have hsc := HSC.out
            have n3 : wrap64 ((m : Int) + 1) = (m : Int) + 1 := by unfold wrap64; omega
            generalize place m = pm at e0 hne
            go_wp2
            case roundEnd => exact ⟨⟨m + 1, by omega, by go_num, trivial⟩, by simp [intOf]; omega⟩
          · go_wp2_with (at_builtin; refine Stand.out ?_)
            refine ⟨?_⟩
            have hown : w5.ownsRow 0 22 1 (.slice so k sc) k ((List.range k).map fun j => Value.int .u64 (place j)) := by
              obtain ⟨F, rs, q1, q2, q3, q4, q5, q6⟩ := HS5.out
              exact q5
            refine wpList_u64 hown rfl (by omega) rfl _ _ rfl rfl rfl ?_
            intro bl' cap' W' HA
            have HS6 : Hid (RoomS w W' g gm (.slice (some ⟨bl', 0, none⟩) (k + 1 : Nat) cap') (k + 1) (k + 1)) := Lib.hid (room_append HS5.out (by rw [← HPK.out]; exact HA.out))
            clear HS5 HA hown
            go_wp2
            case roundEnd => exact ⟨⟨k + 1, by omega, by go_num, HS6⟩, by simp [intOf]; omega⟩
    · obtain rfl : k = 8 := by omega
      obtain ⟨m, hm, HM⟩ : ∃ m : Nat, m < 8 ∧ Hid (wrap64 (o.tmod 8) = (m : Int)) := by
        have := HO.out
        have e : o.tmod 8 = o % 8 := Int.tmod_eq_emod_of_nonneg this.1
        refine ⟨(o % 8).toNat, by omega, Lib.hid ?_⟩
        rw [e]; unfold wrap64; omega
      obtain ⟨so, sc, rfl, hsc, hat⟩ := room_at HS.out
      obtain ⟨bl, rfl, e0⟩ := hat m hm
      have hm1 := HM.out
      clear hat
      go_wp2_with fail
      refine (room_full HS.out 1 (by omega)).mono ?_
      rintro e w4 ⟨rfl, rfl⟩
      obtain ⟨p, hp⟩ : ∃ p, p = place m := ⟨_, rfl⟩
      have HPK := Lib.hid hp
      rw [← hp] at e0
      clear hp
      go_wp2_with fail
      rw [HPK.out]
      refine (room_discard HS.out m hm).mono ?_
      rintro e w5 ⟨rfl, hD⟩
      have HD := Lib.hid hD
      clear hD e0 HS
      go_wp2_with fail
      refine (room_open2 HD.out hm).mono ?_
      rintro e w6 ⟨rfl, rfl⟩
      go_wp2_with fail
      refine (room_again HD.out hm 3 (by omega)).mono ?_
      rintro e w6 ⟨rfl, hE⟩
      have HE := Lib.hid hE
      obtain ⟨so2, sc2, e2, -, hat2⟩ := room_at3 hE
      cases e2
      obtain ⟨bl2, e3, e0⟩ := hat2 m hm
      cases e3
      rw [← HPK.out] at e0 ⊢
      clear hE hat2 HD
      go_wp2_with fail
      refine (room_full2 HE.out hm 3 (by omega)).mono ?_
      rintro e w7 ⟨rfl, rfl⟩
      go_wp2_with fail
      refine (room_out HE.out).mono ?_
      rintro e w8 ⟨so3, sc3, rfl, hB⟩
      have HBB := Lib.hid hB
      clear hB HE
      go_wp2
      go_ret
      exact ⟨rfl, HBB.out⟩
end Go.Proofs.Ytpjgaacdohiomaa.RingRoom
