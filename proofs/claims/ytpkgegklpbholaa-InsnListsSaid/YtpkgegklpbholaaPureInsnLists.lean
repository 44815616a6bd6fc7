/- Plain: every list of slots is written as the document's bytes, is left as it was, and is read back (its registers cut to four bits). -/
import Derived.Test.YtpkgegklpbholaaSlotInsnLists
namespace Go.Proofs.Ytpkgegklpbholaa.Pure
open Go.RowKit Go.Proofs.Ytpkgegklpbholaa.PInsnLists Go.Proofs.YtpkgegklpbholaaW.PrintWords Go.Proofs.YtpkgegklpbholaaW.PrintLast Go.Proofs.YtpkgegklpbholaaW.PrintMore
open Go.Proofs.Ytpkgegklpbholaa.Num Go.Proofs.Ytpkgegklpbholaa.SlotInsnLists

namespace InsnListsParts
/-- A slot whose fields are of their kinds. -/
def Ok (s : S24) : Prop := Byte s.f0 ∧ Byte s.f1 ∧ Byte s.f2 ∧ (-32768 ≤ s.f3 ∧ s.f3 ≤ 32767) ∧ (-2147483648 ≤ s.f4 ∧ s.f4 ≤ 2147483647)
/-- What is read back of a slot. -/
def norm (s : S24) : S24 := ⟨s.f0, s.f1 % 16, s.f2 % 16, s.f3, s.f4⟩
theorem or16 : ∀ a b : Fin 16, Go.bits .or .u8 ((a.val : Nat) : Int) (((b.val * 16 : Nat) : Int)) = (((a.val + b.val * 16 : Nat)) : Int) := by decide +kernel
theorem or_regs {a b : Int} (ha : Byte a) (hb : Byte b) : Go.bits .or .u8 (Go.bits .and .u8 a 15) ((b * 16) % 256) = a % 16 + b % 16 * 16 := by
  rw [and_15 ha]
  obtain ⟨a0, a1⟩ := ha; obtain ⟨b0, b1⟩ := hb
  obtain ⟨m, rfl⟩ := Int.eq_ofNat_of_zero_le a0
  obtain ⟨n, rfl⟩ := Int.eq_ofNat_of_zero_le b0
  have := or16 ⟨m % 16, by omega⟩ ⟨n % 16, by omega⟩
  simp only at this
  rw [show (m : Int) % 16 = ((m % 16 : Nat) : Int) by omega, show (n : Int) * 16 % 256 = ((n % 16 * 16 : Nat) : Int) by omega, this]
  omega
theorem bytes_step (k : Nat) (v n : Int) (l : List Int) (i : Nat) (hv : 0 ≤ v) (hv1 : v < 18446744073709551616) (hi : (i : Int) < n) (hl : l.length < 140737488355328) (hi' : i < 1000) : posternref01_Bytes.l0 (k + 1) v n l (i : Int) = posternref01_Bytes.l0 k (v / 256) n (l ++ [v % 256]) ((i + 1 : Nat) : Int) := by
  simp only [posternref01_Bytes.l0]
  rw [if_pos hi, if_pos hl, IntKind.wrap_u64, Int.tdiv_eq_ediv_of_nonneg hv, Int.tmod_eq_emod_of_nonneg hv, show v % 256 % 256 = v % 256 by omega, show v / 256 % 18446744073709551616 = v / 256 by omega, show wrap64 ((i : Int) + 1) = ((i + 1 : Nat) : Int) by unfold wrap64; omega]
theorem bytes2 (k : Nat) (hk : 4 ≤ k) (v : Int) (hv : 0 ≤ v) (hv1 : v < 18446744073709551616) : posternref01_Bytes.f k v 2 = some [v % 256, v / 256 % 256] := by
  obtain ⟨k, rfl⟩ : ∃ q, k = q + 3 := ⟨k - 3, by omega⟩
  unfold posternref01_Bytes.f
  have s0 := bytes_step (k + 2) v 2 [] 0 hv hv1 (by omega) (by simp) (by omega)
  have s1 := bytes_step (k + 1) (v / 256) 2 ([] ++ [v % 256]) 1 (by omega) (by omega) (by omega) (by simp) (by omega)
  refine (s0.trans s1).trans ?_
  simp only [posternref01_Bytes.l0]
  rw [if_neg (by decide)]
  rfl
theorem bytes4 (k : Nat) (hk : 6 ≤ k) (v : Int) (hv : 0 ≤ v) (hv1 : v < 18446744073709551616) : posternref01_Bytes.f k v 4 = some [v % 256, v / 256 % 256, v / 256 / 256 % 256, v / 256 / 256 / 256 % 256] := by
  obtain ⟨k, rfl⟩ : ∃ q, k = q + 5 := ⟨k - 5, by omega⟩
  unfold posternref01_Bytes.f
  have s0 := bytes_step (k + 4) v 4 [] 0 hv hv1 (by omega) (by simp) (by omega)
  have s1 := bytes_step (k + 3) (v / 256) 4 ([] ++ [v % 256]) 1 (by omega) (by omega) (by omega) (by simp) (by omega)
  have s2 := bytes_step (k + 2) (v / 256 / 256) 4 ([] ++ [v % 256] ++ [v / 256 % 256]) 2 (by omega) (by omega) (by omega) (by simp) (by omega)
  have s3 := bytes_step (k + 1) (v / 256 / 256 / 256) 4 ([] ++ [v % 256] ++ [v / 256 % 256] ++ [v / 256 / 256 % 256]) 3 (by omega) (by omega) (by omega) (by simp) (by omega)
  refine (s0.trans (s1.trans (s2.trans s3))).trans ?_
  simp only [posternref01_Bytes.l0]
  rw [if_neg (by decide)]
  rfl
theorem f_bytes (k : Nat) (hk : 8 ≤ k) (s : S24) (hs : Ok s) : posternref02_Bytes.f k s.f0 s.f1 s.f2 s.f3 s.f4 = some (enc s) := by
  obtain ⟨h0, h1, h2, h3, h4⟩ := hs
  unfold posternref02_Bytes.f
  simp only [Option.bind_some]
  have e3 : IntKind.u64.wrap (IntKind.u16.wrap s.f3) = s.f3 % 65536 := by
    rw [IntKind.wrap_u64]
    have : IntKind.u16.wrap s.f3 = s.f3 % 65536 := by simp [IntKind.wrap, IntKind.bits, IntKind.signed]
    rw [this]; omega
  rw [e3, bytes2 k (by omega) _ (by omega) (by omega)]
  simp only [Option.bind_some]
  rw [if_pos (by simp), bytes4 k (by omega) _ (by omega) (by omega)]
  simp only [Option.bind_some]
  rw [if_pos (by simp)]
  unfold enc
  rw [or_regs h1 h2, IntKind.wrap_u64, IntKind.wrap_u64, Int.tmod_eq_emod_of_nonneg h1.1, Int.tmod_eq_emod_of_nonneg h2.1]
  obtain ⟨b0, b1⟩ := h1; obtain ⟨c0, c1⟩ := h2; obtain ⟨d0, d1⟩ := h3; obtain ⟨g0, g1⟩ := h4
  have x0 : (s.f1 % 16 + s.f2 % 16 * 16 % 256) % 256 = s.f1 % 16 + s.f2 % 16 * 16 := by omega
  have x1 : s.f3 % 65536 % 256 = s.f3 % 18446744073709551616 % 256 := by omega
  have x2 : s.f3 % 65536 / 256 % 256 = s.f3 % 18446744073709551616 / 256 % 256 := by omega
  have x3 : s.f4 % 4294967296 % 256 = s.f4 % 18446744073709551616 % 256 := by omega
  have x4 : s.f4 % 4294967296 / 256 % 256 = s.f4 % 18446744073709551616 / 256 % 256 := by omega
  have x5 : s.f4 % 4294967296 / 256 / 256 % 256 = s.f4 % 18446744073709551616 / 65536 % 256 := by omega
  have x6 : s.f4 % 4294967296 / 256 / 256 / 256 % 256 = s.f4 % 18446744073709551616 / 16777216 % 256 := by omega
  rw [x0, x1, x2, x3, x4, x5, x6]
  rfl
theorem enc_eight (s : S24) (hs : Ok s) : ∃ a b c d e f g h : Int, enc s = [a, b, c, d, e, f, g, h] ∧ slot a b c d e f g h = norm s ∧ Byte a ∧ Byte b ∧ Byte c ∧ Byte d ∧ Byte e ∧ Byte f ∧ Byte g ∧ Byte h := by
  obtain ⟨h0, h1, h2, h3, h4⟩ := hs
  refine ⟨_, _, _, _, _, _, _, _, rfl, ?_, h0, ?_, ?_, ?_, ?_, ?_, ?_, ?_⟩
  · rw [or_regs h1 h2, IntKind.wrap_u64, IntKind.wrap_u64]
    obtain ⟨b0, b1⟩ := h1; obtain ⟨c0, c1⟩ := h2; obtain ⟨d0, d1⟩ := h3; obtain ⟨g0, g1⟩ := h4
    unfold slot norm
    have y1 : (s.f1 % 16 + s.f2 % 16 * 16) % 16 = s.f1 % 16 := by omega
    have y2 : (s.f1 % 16 + s.f2 % 16 * 16) / 16 = s.f2 % 16 := by omega
    have y3 : IntKind.i16.wrap (s.f3 % 18446744073709551616 % 256 + 256 * (s.f3 % 18446744073709551616 / 256 % 256)) = s.f3 := by rw [i16_wrap]; omega
    have y4 : wrap32 (s.f4 % 18446744073709551616 % 256 + 256 * (s.f4 % 18446744073709551616 / 256 % 256) + 65536 * (s.f4 % 18446744073709551616 / 65536 % 256) + 16777216 * (s.f4 % 18446744073709551616 / 16777216 % 256)) = s.f4 := by unfold wrap32; omega
    rw [y1, y2, y3, y4]
  · rw [or_regs h1 h2]; obtain ⟨b0, b1⟩ := h1; obtain ⟨c0, c1⟩ := h2; unfold Byte; omega
  all_goals (unfold Byte; omega)
theorem flat_len : ∀ l : List S24, (l.flatMap enc).length = 8 * l.length
  | [] => rfl
  | s :: l => by
    rw [List.flatMap_cons, List.length_append, flat_len l, List.length_cons]
    simp only [enc, List.length_cons, List.length_nil]
    omega
theorem flat_byte : ∀ l : List S24, (∀ s ∈ l, Ok s) → ∀ x ∈ l.flatMap enc, Byte x
  | [], _ => by simp
  | s :: l, h => by
    intro x hx
    rw [List.flatMap_cons, List.mem_append] at hx
    rcases hx with hx | hx
    · obtain ⟨a, b, c, d, e, f, g, i, h1, _, k⟩ := enc_eight s (h s (by simp))
      rw [h1] at hx
      obtain ⟨k0, k1, k2, k3, k4, k5, k6, k7⟩ := k
      simp only [List.mem_cons, List.not_mem_nil, or_false] at hx
      rcases hx with rfl | rfl | rfl | rfl | rfl | rfl | rfl | rfl <;> assumption
    · exact flat_byte l (fun s hs => h s (by simp [hs])) x hx
theorem dec_flat : ∀ l : List S24, (∀ s ∈ l, Ok s) → dec (l.flatMap enc) = l.map norm
  | [], _ => rfl
  | s :: l, h => by
    obtain ⟨a, b, c, d, e, f, g, i, h1, h2, _⟩ := enc_eight s (h s (by simp))
    rw [List.flatMap_cons, h1, List.map_cons, ← dec_flat l (fun s hs => h s (by simp [hs])), ← h2]
    rfl
theorem rd_get (l : List S24) (i : Nat) (hi : i < l.length) : rd_T24 l (i : Int) = l[i] := by
  unfold rd_T24
  rw [Int.toNat_natCast, List.getD_eq_getElem?_getD, List.getElem?_eq_getElem hi]
  rfl
theorem loop1 (l : List S24) (hll : l.length < 4611686018427387904) (ho : ∀ s ∈ l, Ok s) (d : Nat) : ∀ k i : Nat, i ≤ l.length → l.length - i = d → d + 10 ≤ k →
    posternlaw02_InsnLists.l1 k l (l.map norm) (l.length : Int) (i : Int) = some true := by
  induction d with
  | zero =>
    intro k i hi hd hk
    obtain ⟨k, rfl⟩ : ∃ q, k = q + 1 := ⟨k - 1, by omega⟩
    simp only [posternlaw02_InsnLists.l1]
    rw [if_neg (by omega)]
  | succ d ih =>
    intro k i hi hd hk
    obtain ⟨k, rfl⟩ : ∃ q, k = q + 1 := ⟨k - 1, by omega⟩
    have hi' : i < l.length := by omega
    obtain ⟨h0, h1, h2, _⟩ := ho l[i] (List.getElem_mem hi')
    simp only [posternlaw02_InsnLists.l1]
    rw [if_pos (by omega), if_pos (by omega), if_pos (by omega), if_pos (by rw [List.length_map]; omega), rd_get l i hi', rd_get (l.map norm) i (by rw [List.length_map]; omega), List.getElem_map]
    unfold norm
    simp only [Int.tmod_eq_emod_of_nonneg h1.1, Int.tmod_eq_emod_of_nonneg h2.1, BEq.rfl, Bool.not_true, Bool.or_false, Bool.false_eq_true, if_false]
    rw [show wrap64 ((i : Int) + 1) = ((i + 1 : Nat) : Int) by unfold wrap64; omega]
    exact ih k (i + 1) (by omega) (by omega) (by omega)
theorem loop0 (l : List S24) (hn : l.length * 12 ≤ 140737488351232) (ho : ∀ s ∈ l, Ok s) (d : Nat) : ∀ k i : Nat, i ≤ l.length → l.length - i = d → d + l.length + 100 ≤ k →
    posternlaw02_InsnLists.l0 k l l (l.flatMap enc) ((l.take i).flatMap enc) (l.length : Int) (i : Int) = some true := by
  induction d with
  | zero =>
    intro k i hi hd hk
    obtain ⟨k, rfl⟩ : ∃ q, k = q + 1 := ⟨k - 1, by omega⟩
    have hd : insn_Decode.f k (l.flatMap enc) = some (l.map norm, 0) := by
      unfold insn_Decode.f
      rw [flat_len, if_pos (by omega), SlotInsnLists.decode l.length _ _ [] (flat_len l) (flat_byte l ho) (by omega) (by simp; omega), dec_flat l ho]
      simp
    simp only [posternlaw02_InsnLists.l0]
    rw [if_neg (by omega), hd, List.take_of_length_le (by omega)]
    simp only [Option.bind_some, if_true]
    obtain ⟨k, rfl⟩ : ∃ q, k = q + 1 := ⟨k - 1, by omega⟩
    simp only [posternlaw02_InsnLists.j1]
    rw [List.length_map, if_neg (by simp)]
    exact loop1 l (by omega) ho l.length k 0 (by omega) (by omega) (by omega)
  | succ d ih =>
    intro k i hi hd hk
    obtain ⟨k, rfl⟩ : ∃ q, k = q + 1 := ⟨k - 1, by omega⟩
    have hi' : i < l.length := by omega
    have hs := ho l[i] (List.getElem_mem hi')
    simp only [posternlaw02_InsnLists.l0]
    rw [if_pos (by omega), if_pos (by omega), if_pos (by omega), rd_get l i hi', f_bytes k (by omega) _ hs]
    simp only [Option.bind_some]
    rw [if_pos (by rw [flat_len, List.length_take]; simp only [enc, List.length_cons, List.length_nil]; omega), if_pos (by omega)]
    simp only [BEq.rfl, Bool.not_true, Bool.or_false, Bool.false_eq_true, if_false]
    rw [show wrap64 ((i : Int) + 1) = ((i + 1 : Nat) : Int) by unfold wrap64; omega]
    have e : (l.take i).flatMap enc ++ enc l[i] = (l.take (i + 1)).flatMap enc := by
      rw [List.take_succ_eq_append_getElem hi', List.flatMap_append]
      simp
    rw [e]
    exact ih k (i + 1) (by omega) (by omega) (by omega)
end InsnListsParts
open InsnListsParts

theorem InsnLists_first (k : Nat) : posternlaw02_first.f (60 + k) = some true := by
  induction k with
  | zero => decide +kernel
  | succ k ih => exact posternlaw02_first.mono (60 + k) _ ih

theorem InsnLists (l : List S24) (hn : l.length * 12 ≤ 140737488351232) (hw : ∀ s ∈ l, (Lit.int .u8 s.f0).wf = true ∧ (Lit.int .u8 s.f1).wf = true ∧ (Lit.int .u8 s.f2).wf = true ∧ (Lit.int .i16 s.f3).wf = true ∧ (Lit.int .i32 s.f4).wf = true) : ∃ k, posternlaw02_InsnLists.f k l = some true := by
  have ho : ∀ s ∈ l, Ok s := fun s hs => by
    obtain ⟨h0, h1, h2, h3, h4⟩ := hw s hs
    exact ⟨bounds_u8 h0, bounds_u8 h1, bounds_u8 h2, bounds_i16 h3, bounds_i32 h4⟩
  refine ⟨60 + (2 * l.length + 200), ?_⟩
  unfold posternlaw02_InsnLists.f
  rw [InsnLists_first]
  simp only [Option.bind_some, if_true, List.nil_append]
  rw [if_pos (by simp only [List.length_nil]; omega), f_encode _ l (by omega) (by omega)]
  simp only [Option.bind_some]
  exact loop0 l hn ho l.length _ 0 (by omega) (by omega) (by omega)
end Go.Proofs.Ytpkgegklpbholaa.Pure
