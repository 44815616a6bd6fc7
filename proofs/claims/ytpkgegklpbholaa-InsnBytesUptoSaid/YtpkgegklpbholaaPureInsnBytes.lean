/- Plain: every bytes are slots, or cut off, and are written so again (of at most a million bytes). -/
import Derived.Test.YtpkgegklpbholaaSlotInsnBytes
namespace Go.Proofs.Ytpkgegklpbholaa.Pure
open Go.RowKit Go.Proofs.Ytpkgegklpbholaa.PInsnBytes Go.Proofs.YtpkgegklpbholaaW.PrintWords Go.Proofs.YtpkgegklpbholaaW.PrintLast Go.Proofs.YtpkgegklpbholaaW.PrintMore
open Go.Proofs.Ytpkgegklpbholaa.Num Go.Proofs.Ytpkgegklpbholaa.SlotInsnBytes

namespace InsnBytesParts
theorem number2 (k : Nat) (hk : 5 ≤ k) {c d : Int} (hc : Byte c) (hd : Byte d) : posternref01_Number.f k [c, d] = some (c + 256 * d) := by
  obtain ⟨k, rfl⟩ : ∃ q, k = q + 3 := ⟨k - 3, by omega⟩
  obtain ⟨c0, c1⟩ := hc; obtain ⟨d0, d1⟩ := hd
  unfold posternref01_Number.f
  rw [show wrap64 ((([c, d] : List Int).length : Int) - 1) = 1 from (by decide +kernel : wrap64 ((2 : Int) - 1) = 1)]
  simp only [posternref01_Number.l0]
  rw [if_pos (by decide), if_pos (by decide), if_pos (by simp), show wrap64 (1 - 1) = 0 by decide +kernel, if_pos (by decide), if_pos (by decide), if_pos (by simp), show wrap64 (0 - 1) = -1 by decide +kernel, if_neg (by decide)]
  have r0 : rd [c, d] 0 = c := rfl
  have r1 : rd [c, d] 1 = d := rfl
  rw [r0, r1]
  simp only [IntKind.wrap_u64]
  congr 1; omega
theorem number4 (k : Nat) (hk : 7 ≤ k) {c d e f : Int} (hc : Byte c) (hd : Byte d) (he : Byte e) (hf : Byte f) : posternref01_Number.f k [c, d, e, f] = some (c + 256 * d + 65536 * e + 16777216 * f) := by
  obtain ⟨k, rfl⟩ : ∃ q, k = q + 5 := ⟨k - 5, by omega⟩
  obtain ⟨c0, c1⟩ := hc; obtain ⟨d0, d1⟩ := hd; obtain ⟨e0, e1⟩ := he; obtain ⟨f0, f1⟩ := hf
  unfold posternref01_Number.f
  rw [show wrap64 ((([c, d, e, f] : List Int).length : Int) - 1) = 3 from (by decide +kernel : wrap64 ((4 : Int) - 1) = 3)]
  simp only [posternref01_Number.l0]
  rw [if_pos (by decide), if_pos (by decide), if_pos (by simp), show wrap64 (3 - 1) = 2 by decide +kernel, if_pos (by decide), if_pos (by decide), if_pos (by simp), show wrap64 (2 - 1) = 1 by decide +kernel,
    if_pos (by decide), if_pos (by decide), if_pos (by simp), show wrap64 (1 - 1) = 0 by decide +kernel, if_pos (by decide), if_pos (by decide), if_pos (by simp), show wrap64 (0 - 1) = -1 by decide +kernel, if_neg (by decide)]
  have r0 : rd [c, d, e, f] 0 = c := rfl
  have r1 : rd [c, d, e, f] 1 = d := rfl
  have r2 : rd [c, d, e, f] 2 = e := rfl
  have r3 : rd [c, d, e, f] 3 = f := rfl
  rw [r0, r1, r2, r3]
  simp only [IntKind.wrap_u64]
  congr 1; omega
theorem f_slot (k : Nat) (hk : 10 ≤ k) {a b c d e f g h : Int} (hb : Byte b) (hc : Byte c) (hd : Byte d) (he : Byte e) (hf : Byte f) (hg : Byte g) (hh : Byte h) :
    posternref02_Slot.f k [a, b, c, d, e, f, g, h] = some ((slot a b c d e f g h).f0, (slot a b c d e f g h).f1, (slot a b c d e f g h).f2, (slot a b c d e f g h).f3, (slot a b c d e f g h).f4) := by
  unfold posternref02_Slot.f
  have hl : (([a, b, c, d, e, f, g, h] : List Int).length : Int) = 8 := rfl
  have t1 : (([a, b, c, d, e, f, g, h] : List Int).take 4).drop 2 = [c, d] := rfl
  have t2 : (([a, b, c, d, e, f, g, h] : List Int).take 8).drop 4 = [e, f, g, h] := rfl
  have r0 : rd [a, b, c, d, e, f, g, h] 0 = a := rfl
  have r1 : rd [a, b, c, d, e, f, g, h] 1 = b := rfl
  rw [hl, if_pos (by decide), if_pos (by decide), if_pos (by decide), if_pos (by decide), t1, t2, number2 k (by omega) hc hd]
  simp only [Option.bind_some]
  rw [if_pos (by decide), if_pos (by decide), number4 k (by omega) he hf hg hh]
  simp only [Option.bind_some]
  rw [r0, r1]
  obtain ⟨b0, b1⟩ := hb; obtain ⟨c0, c1⟩ := hc; obtain ⟨d0, d1⟩ := hd; obtain ⟨e0, e1⟩ := he; obtain ⟨f0, f1⟩ := hf; obtain ⟨g0, g1⟩ := hg; obtain ⟨h0, h1⟩ := hh
  unfold slot
  have x1 : Int.tmod b 16 = b % 16 := Int.tmod_eq_emod_of_nonneg b0
  have x2 : Int.tdiv b 16 % 256 = b / 16 := by rw [Int.tdiv_eq_ediv_of_nonneg b0]; omega
  have x3 : IntKind.u16.wrap (c + 256 * d) = c + 256 * d := by simp [IntKind.wrap, IntKind.bits, IntKind.signed]; omega
  have x4 : (e + 256 * f + 65536 * g + 16777216 * h) % 4294967296 = e + 256 * f + 65536 * g + 16777216 * h := by omega
  rw [x1, x2, x3, x4]
/-- Eight bytes at place i, and the slot there. -/
theorem chunk (i : Nat) : ∀ (n : Nat) (l : List Int), l.length = 8 * n → i < n → (∀ x ∈ l, Byte x) →
    ∃ a b c d e f g h : Int, (l.take (8 * i + 8)).drop (8 * i) = [a, b, c, d, e, f, g, h] ∧ rd_T24 (dec l) (i : Int) = slot a b c d e f g h ∧ Byte b ∧ Byte c ∧ Byte d ∧ Byte e ∧ Byte f ∧ Byte g ∧ Byte h := by
  induction i with
  | zero =>
    intro n l hl hi hb
    match l, (show 8 ≤ l.length by omega) with
    | a :: b :: c :: d :: e :: f :: g :: h :: t, _ =>
      exact ⟨a, b, c, d, e, f, g, h, rfl, rfl, hb b (by simp), hb c (by simp), hb d (by simp), hb e (by simp), hb f (by simp), hb g (by simp), hb h (by simp)⟩
  | succ i ih =>
    intro n l hl hi hb
    match l, hl, (show 8 ≤ l.length by omega) with
    | a :: b :: c :: d :: e :: f :: g :: h :: t, hl, _ =>
      obtain ⟨a', b', c', d', e', f', g', h', h1, h2, h3⟩ := ih (n - 1) t (by simp only [List.length_cons] at hl; omega) (by omega) (fun x hx => hb x (by simp [hx]))
      refine ⟨a', b', c', d', e', f', g', h', ?_, ?_, h3⟩
      · rw [show 8 * (i + 1) + 8 = (8 * i + 8) + 8 by omega, show 8 * (i + 1) = 8 * i + 8 by omega]
        exact h1
      · rw [← h2]
        unfold rd_T24
        rw [show ((i + 1 : Nat) : Int).toNat = i + 1 by omega, show ((i : Nat) : Int).toNat = i by omega]
        simp only [dec, List.getD_cons_succ]
theorem loop (l : List Int) (n : Nat) (hl : l.length = 8 * n) (hn : l.length ≤ 1048576) (hb : ∀ x ∈ l, Byte x) (d : Nat) : ∀ k i : Nat, i ≤ n → n - i = d → d + n + 100 ≤ k →
    posternlaw02_InsnBytes.l0 k l (dec l) (n : Int) (i : Int) = some true := by
  induction d with
  | zero =>
    intro k i hi hd hk
    obtain ⟨k, rfl⟩ : ∃ q, k = q + 1 := ⟨k - 1, by omega⟩
    simp only [posternlaw02_InsnBytes.l0]
    rw [if_neg (by omega), f_encode k (dec l) (by rw [dec_len n l hl]; omega) (by rw [dec_len n l hl]; omega), enc_dec n l hl hb]
    simp
  | succ d ih =>
    intro k i hi hd hk
    obtain ⟨k, rfl⟩ : ∃ q, k = q + 1 := ⟨k - 1, by omega⟩
    obtain ⟨a, b, c, d', e, f, g, h, h1, h2, b1, b2, b3, b4, b5, b6, b7⟩ := chunk i n l hl (by omega) hb
    have w1 : wrap64 (8 * (i : Int)) = ((8 * i : Nat) : Int) := by unfold wrap64; omega
    have w2 : wrap64 (((8 * i : Nat) : Int) + 8) = ((8 * i + 8 : Nat) : Int) := by unfold wrap64; omega
    simp only [posternlaw02_InsnBytes.l0]
    rw [if_pos (by omega), if_pos (by omega), if_pos (by rw [dec_len n l hl]; omega), w1, w2, if_pos (by omega), if_pos (by omega), if_pos (by omega), Int.toNat_natCast, Int.toNat_natCast, h1, f_slot k (by omega) b1 b2 b3 b4 b5 b6 b7]
    simp only [Option.bind_some, h2, BEq.rfl, Bool.not_true, Bool.or_false, Bool.false_eq_true, if_false]
    rw [show wrap64 ((i : Int) + 1) = ((i + 1 : Nat) : Int) by unfold wrap64; omega]
    exact ih k (i + 1) (by omega) (by omega) (by omega)
end InsnBytesParts
open InsnBytesParts

theorem first_mono (k : Nat) : posternlaw02_first.f (60 + k) = some true := by
  induction k with
  | zero => decide +kernel
  | succ k ih => exact posternlaw02_first.mono (60 + k) _ ih

theorem InsnBytes (l : List Int) (hn : l.length ≤ 1048576) (hw : ∀ x ∈ l, (Lit.int .u8 x).wf = true) : ∃ k, posternlaw02_InsnBytes.f k l = some true := by
  have hb : ∀ x ∈ l, Byte x := fun x hx => bounds_u8 (hw x hx)
  refine ⟨60 + (2 * l.length + 200), ?_⟩
  unfold posternlaw02_InsnBytes.f
  rw [first_mono]
  simp only [Option.bind_some, if_true]
  by_cases h8 : l.length % 8 = 0
  · obtain ⟨n, hl⟩ : ∃ n, l.length = 8 * n := ⟨l.length / 8, by omega⟩
    have hd : insn_Decode.f (60 + (2 * l.length + 200)) l = some (dec l, 0) := by
      unfold insn_Decode.f
      rw [if_pos (by omega), SlotInsnBytes.decode n _ l [] hl hb (by omega) (by simp; omega)]
      simp
    rw [hd]
    simp only [Option.bind_some, if_true]
    rw [if_pos (by omega)]
    obtain ⟨k, hk⟩ : ∃ q, 60 + (2 * l.length + 200) = q + 1 := ⟨259 + 2 * l.length, by omega⟩
    rw [hk]
    simp only [posternlaw02_InsnBytes.j0]
    rw [dec_len n l hl, if_neg (by rw [show wrap64 ((l.length : Int) / 8) = (n : Int) by unfold wrap64; omega]; simp)]
    exact loop l n hl hn hb n k 0 (by omega) (by omega) (by omega)
  · have hd : insn_Decode.f (60 + (2 * l.length + 200)) l = some ([], 20) := by
      unfold insn_Decode.f
      rw [if_neg (by omega)]
    rw [hd]
    simp only [Option.bind_some, if_true]
    rw [if_neg (by omega)]
    rfl
end Go.Proofs.Ytpkgegklpbholaa.Pure
