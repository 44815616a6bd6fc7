/- Plain: eight bytes as a slot, a slot as eight bytes: what Decode, Encode and the document's definitions give, over lists. -/
import Derived.Test.YtpkgegklpbholaaPInsnListsx
import Derived.Test.YtpkgegklpbholaaNum
namespace Go.Proofs.Ytpkgegklpbholaa.SlotInsnLists
open Go.RowKit Go.Proofs.Ytpkgegklpbholaa.PInsnLists Go.Proofs.YtpkgegklpbholaaW.PrintWords Go.Proofs.YtpkgegklpbholaaW.PrintLast Go.Proofs.YtpkgegklpbholaaW.PrintMore
open Go.Proofs.Ytpkgegklpbholaa.Num

def Byte (x : Int) : Prop := 0 ≤ x ∧ x ≤ 255
/-- A slot of eight bytes. -/
def slot (a b c d e f g h : Int) : S24 := ⟨a, b % 16, b / 16, IntKind.i16.wrap (c + 256 * d), wrap32 (e + 256 * f + 65536 * g + 16777216 * h)⟩
/-- All slots of a list of bytes. -/
def dec : List Int → List S24
  | a :: b :: c :: d :: e :: f :: g :: h :: t => slot a b c d e f g h :: dec t
  | _ => []

theorem and15 : ∀ n : Fin 256, Go.bits .and .u8 ((n.val : Nat) : Int) 15 = ((n.val % 16 : Nat) : Int) := by decide +kernel
theorem and_15 {b : Int} (hb : Byte b) : Go.bits .and .u8 b 15 = b % 16 := by
  obtain ⟨h0, h1⟩ := hb
  obtain ⟨n, rfl⟩ := Int.eq_ofNat_of_zero_le h0
  have := and15 ⟨n, by omega⟩
  simp only at this
  rw [this]; omega
theorem orb : ∀ n : Fin 256, Go.bits .or .u8 (Go.bits .and .u8 ((n.val % 16 : Nat) : Int) 15) ((((n.val / 16 : Nat) : Int) * 16) % 256) = ((n.val : Nat) : Int) := by decide +kernel
theorem or_b {b : Int} (hb : Byte b) : Go.bits .or .u8 (Go.bits .and .u8 (b % 16) 15) ((b / 16 * 16) % 256) = b := by
  obtain ⟨h0, h1⟩ := hb
  obtain ⟨n, rfl⟩ := Int.eq_ofNat_of_zero_le h0
  have := orb ⟨n, by omega⟩
  simp only at this
  rw [show (n : Int) % 16 = ((n % 16 : Nat) : Int) by omega, show (n : Int) / 16 = ((n / 16 : Nat) : Int) by omega]
  exact this

/-! ### Numbers of two and of four bytes -/
theorem or_add {x y p q : Int} (i : Nat) (hx0 : 0 ≤ x) (hx : x < p) (hp : p = 2 ^ i) (hy0 : 0 ≤ y) (hy : y * p < 18446744073709551616) (hi : i ≤ 63) (hq : q = y * p) : Go.bits .or .u64 x q = x + q := by
  subst hq hp
  obtain ⟨a, rfl⟩ := Int.eq_ofNat_of_zero_le hx0
  obtain ⟨b, rfl⟩ := Int.eq_ofNat_of_zero_le hy0
  have hpw : ((2 ^ i : Nat) : Int) = 2 ^ i := by rw [Int.natCast_pow]; rfl
  rw [← hpw] at hx hy ⊢
  rw [← Int.natCast_mul] at hy ⊢
  have h1 : a < 2 ^ i := by omega
  have h2 : 2 ^ i ≤ 2 ^ 63 := Nat.pow_le_pow_right (by decide) hi
  have h3 : 2 ^ 63 < 18446744073709551616 := by decide
  have h := Nat.two_pow_add_eq_or_of_lt h1 b
  rw [or_nat (by omega) (by omega), Nat.or_comm, Nat.mul_comm b, ← h]
  omega
theorem w8 (i : Int) (h0 : 0 ≤ i) (h : i ≤ 7) : IntKind.u64.wrap (wrap64 (8 * i)) = 8 * i := by rw [IntKind.wrap_u64]; unfold wrap64; omega
theorem shl_byte {c : Int} (hc : Byte c) (n : Nat) (hn : n ≤ 56) (p : Int) (hp : p = 2 ^ n) : shl .u64 (IntKind.u64.wrap c) (n : Int) = c * p := by
  obtain ⟨h0, h1⟩ := hc
  obtain ⟨a, rfl⟩ := Int.eq_ofNat_of_zero_le h0
  subst hp
  have e : IntKind.u64.wrap (a : Int) = (a : Int) := by rw [IntKind.wrap_u64]; omega
  rw [e, shl_nat a n (by omega)]
  have h2 : 2 ^ n ≤ 2 ^ 56 := Nat.pow_le_pow_right (by decide) hn
  have h3 : a * 2 ^ n ≤ 255 * 2 ^ 56 := Nat.mul_le_mul (by omega) h2
  have h4 : 255 * 2 ^ 56 < 18446744073709551616 := by decide
  rw [Nat.mod_eq_of_lt (by omega), Int.natCast_mul, Int.natCast_pow]
  rfl
theorem num_step (k : Nat) (x : Int) (l : List Int) (n : Int) (i : Nat) (hi : i ≤ 7) (hn : (i : Int) < n) (hl : (i : Int) < (l.length : Int)) (hc : Byte (rd l (i : Int))) (p : Int) (hp : p = 2 ^ (8 * i)) (hx0 : 0 ≤ x) (hx : x < p) (hy : rd l (i : Int) * p < 18446744073709551616) :
    le_Num.l0 (k + 1) x l n (i : Int) = le_Num.l0 k (x + rd l (i : Int) * p) l n ((i + 1 : Nat) : Int) := by
  simp only [le_Num.l0]
  rw [if_pos hn, if_pos (by omega), if_pos hl, w8 (i : Int) (by omega) (by omega), if_pos (by omega), show 8 * (i : Int) = ((8 * i : Nat) : Int) by omega, shl_byte hc (8 * i) (by omega) p hp]
  rw [or_add (8 * i) hx0 hx hp hc.1 hy (by omega) rfl, show wrap64 ((i : Int) + 1) = ((i + 1 : Nat) : Int) by unfold wrap64; omega]
theorem num2 (k : Nat) (hk : 6 ≤ k) {c d : Int} (hc : Byte c) (hd : Byte d) : le_Num.f k [c, d] = some (c + 256 * d) := by
  obtain ⟨k, rfl⟩ : ∃ q, k = q + 6 := ⟨k - 6, by omega⟩
  obtain ⟨c0, c1⟩ := hc
  obtain ⟨d0, d1⟩ := hd
  unfold le_Num.f
  have s0 := num_step (k + 5) 0 [c, d] 2 0 (by omega) (by omega) (by simp) ⟨c0, c1⟩ 1 (by decide) (by omega) (by omega) (by show c * 1 < _; omega)
  have s1 := num_step (k + 4) (0 + c * 1) [c, d] 2 1 (by omega) (by omega) (by simp) ⟨d0, d1⟩ 256 (by decide) (by omega) (by omega) (by show d * 256 < _; omega)
  refine (s0.trans s1).trans ?_
  simp only [le_Num.l0]
  rw [if_neg (by decide)]
  congr 1
  show 0 + c * 1 + d * 256 = _
  omega
theorem num4 (k : Nat) (hk : 8 ≤ k) {c d e f : Int} (hc : Byte c) (hd : Byte d) (he : Byte e) (hf : Byte f) : le_Num.f k [c, d, e, f] = some (c + 256 * d + 65536 * e + 16777216 * f) := by
  obtain ⟨k, rfl⟩ : ∃ q, k = q + 8 := ⟨k - 8, by omega⟩
  obtain ⟨c0, c1⟩ := hc
  obtain ⟨d0, d1⟩ := hd
  obtain ⟨e0, e1⟩ := he
  obtain ⟨f0, f1⟩ := hf
  unfold le_Num.f
  have s0 := num_step (k + 7) 0 [c, d, e, f] 4 0 (by omega) (by omega) (by simp) ⟨c0, c1⟩ 1 (by decide) (by omega) (by omega) (by show c * 1 < _; omega)
  have s1 := num_step (k + 6) (0 + c * 1) [c, d, e, f] 4 1 (by omega) (by omega) (by simp) ⟨d0, d1⟩ 256 (by decide) (by omega) (by omega) (by show d * 256 < _; omega)
  have s2 := num_step (k + 5) (0 + c * 1 + d * 256) [c, d, e, f] 4 2 (by omega) (by omega) (by simp) ⟨e0, e1⟩ 65536 (by decide) (by omega) (by omega) (by show e * 65536 < _; omega)
  have s3 := num_step (k + 4) (0 + c * 1 + d * 256 + e * 65536) [c, d, e, f] 4 3 (by omega) (by omega) (by simp) ⟨f0, f1⟩ 16777216 (by decide) (by omega) (by omega) (by show f * 16777216 < _; omega)
  refine (s0.trans (s1.trans (s2.trans s3))).trans ?_
  simp only [le_Num.l0]
  rw [if_neg (by decide)]
  congr 1
  show 0 + c * 1 + d * 256 + e * 65536 + f * 16777216 = _
  omega

/-! ### Decode -/
theorem decode (n : Nat) : ∀ (k : Nat) (l : List Int) (acc : List S24), l.length = 8 * n → (∀ x ∈ l, Byte x) → n + 20 ≤ k → acc.length + n < 11728124029610 → insn_Decode.l0 k l acc = some (acc ++ dec l, 0) := by
  induction n with
  | zero =>
    intro k l acc hl hb hk ha
    obtain ⟨k, rfl⟩ : ∃ q, k = q + 1 := ⟨k - 1, by omega⟩
    have : l = [] := List.length_eq_zero_iff.1 (by omega)
    subst this
    simp only [insn_Decode.l0]
    rw [if_neg (by decide)]
    simp [dec]
  | succ n ih =>
    intro k l acc hl hb hk ha
    obtain ⟨k, rfl⟩ : ∃ q, k = q + 1 := ⟨k - 1, by omega⟩
    match l, hl with
    | a :: b :: c :: d :: e :: f :: g :: h :: t, hl =>
      have hlen : ((a :: b :: c :: d :: e :: f :: g :: h :: t).length : Int) = (t.length : Int) + 8 := by simp only [List.length_cons]; omega
      have hB : ∀ x ∈ ([a, b, c, d, e, f, g, h] : List Int), Byte x := fun x hx => hb x (by simp only [List.mem_cons, List.not_mem_nil, or_false] at hx ⊢; rcases hx with r | r | r | r | r | r | r | r <;> simp [r])
      have hbb : Byte b := hB b (by simp)
      simp only [insn_Decode.l0]
      rw [hlen, if_pos (by omega), if_pos (by omega), if_pos (by omega), if_pos (by omega), if_pos (by omega)]
      have t1 : ((a :: b :: c :: d :: e :: f :: g :: h :: t).take 4).drop 2 = [c, d] := rfl
      have t2 : ((a :: b :: c :: d :: e :: f :: g :: h :: t).take 8).drop 4 = [e, f, g, h] := rfl
      rw [t1, t2, num2 k (by omega) (hB c (by simp)) (hB d (by simp))]
      simp only [Option.bind_some]
      rw [if_pos (by omega), if_pos (by omega), num4 k (by omega) (hB e (by simp)) (hB f (by simp)) (hB g (by simp)) (hB h (by simp))]
      simp only [Option.bind_some]
      rw [if_pos (by omega)]
      have r0 : rd (a :: b :: c :: d :: e :: f :: g :: h :: t) 0 = a := rfl
      have r1 : rd (a :: b :: c :: d :: e :: f :: g :: h :: t) 1 = b := rfl
      rw [r0, r1, and_15 hbb]
      have hd8 : (a :: b :: c :: d :: e :: f :: g :: h :: t).drop 8 = t := rfl
      rw [hd8, ih k t _ (by simp only [List.length_cons] at hl; omega) (fun x hx => hb x (by simp [hx])) (by omega) (by rw [List.length_append]; simp; omega)]
      rw [List.append_assoc]
      rfl

theorem dec_len (n : Nat) : ∀ l : List Int, l.length = 8 * n → (dec l).length = n := by
  induction n with
  | zero => intro l hl; have : l = [] := List.length_eq_zero_iff.1 (by omega); subst this; rfl
  | succ n ih =>
    intro l hl
    match l, hl with
    | a :: b :: c :: d :: e :: f :: g :: h :: t, hl =>
      simp only [dec, List.length_cons]
      rw [ih t (by simp only [List.length_cons] at hl; omega)]

/-! ### Encode -/
theorem shr_lit (v : Int) (n : Nat) (hn : n ≤ 64) : shr .u64 v (n : Int) = v / 2 ^ n := by
  unfold shr
  rw [Int.toNat_natCast, Nat.min_eq_left (show n ≤ IntKind.u64.bits from hn)]
theorem put_step (k : Nat) (l : List Int) (v n : Int) (i : Nat) (hi : i ≤ 7) (hn : (i : Int) < n) (hl : l.length < 140737488355328) : le_Put.l0 (k + 1) l v n (i : Int) = le_Put.l0 k (l ++ [v / 2 ^ (8 * i) % 256]) v n ((i + 1 : Nat) : Int) := by
  simp only [le_Put.l0]
  rw [if_pos hn, w8 (i : Int) (by omega) (by omega), if_pos (by omega), if_pos hl, show 8 * (i : Int) = ((8 * i : Nat) : Int) by omega, shr_lit v (8 * i) (by omega), show wrap64 ((i : Int) + 1) = ((i + 1 : Nat) : Int) by unfold wrap64; omega]
theorem put2 (k : Nat) (hk : 4 ≤ k) (l : List Int) (v : Int) (hl : l.length + 2 < 140737488355328) : le_Put.f k l v 2 = some (l ++ [v % 256, v / 256 % 256]) := by
  obtain ⟨k, rfl⟩ : ∃ q, k = q + 4 := ⟨k - 4, by omega⟩
  unfold le_Put.f
  have s0 := put_step (k + 3) l v 2 0 (by omega) (by omega) (by omega)
  have s1 := put_step (k + 2) (l ++ [v / 2 ^ (8 * 0) % 256]) v 2 1 (by omega) (by omega) (by rw [List.length_append]; simp; omega)
  refine (s0.trans s1).trans ?_
  simp only [le_Put.l0]
  rw [if_neg (by decide), List.append_assoc]
  simp
theorem put4 (k : Nat) (hk : 6 ≤ k) (l : List Int) (v : Int) (hl : l.length + 4 < 140737488355328) : le_Put.f k l v 4 = some (l ++ [v % 256, v / 256 % 256, v / 65536 % 256, v / 16777216 % 256]) := by
  obtain ⟨k, rfl⟩ : ∃ q, k = q + 6 := ⟨k - 6, by omega⟩
  unfold le_Put.f
  have s0 := put_step (k + 5) l v 4 0 (by omega) (by omega) (by omega)
  have s1 := put_step (k + 4) (l ++ [v / 2 ^ (8 * 0) % 256]) v 4 1 (by omega) (by omega) (by rw [List.length_append]; simp; omega)
  have s2 := put_step (k + 3) (l ++ [v / 2 ^ (8 * 0) % 256] ++ [v / 2 ^ (8 * 1) % 256]) v 4 2 (by omega) (by omega) (by rw [List.length_append, List.length_append]; simp; omega)
  have s3 := put_step (k + 2) (l ++ [v / 2 ^ (8 * 0) % 256] ++ [v / 2 ^ (8 * 1) % 256] ++ [v / 2 ^ (8 * 2) % 256]) v 4 3 (by omega) (by omega) (by rw [List.length_append, List.length_append, List.length_append]; simp; omega)
  refine (s0.trans (s1.trans (s2.trans s3))).trans ?_
  simp only [le_Put.l0]
  rw [if_neg (by decide), List.append_assoc, List.append_assoc, List.append_assoc]
  simp
/-- The eight bytes of a slot. -/
def enc (s : S24) : List Int := [s.f0, Go.bits .or .u8 (Go.bits .and .u8 s.f1 15) ((s.f2 * 16) % 256), IntKind.u64.wrap s.f3 % 256, IntKind.u64.wrap s.f3 / 256 % 256, IntKind.u64.wrap s.f4 % 256, IntKind.u64.wrap s.f4 / 256 % 256, IntKind.u64.wrap s.f4 / 65536 % 256, IntKind.u64.wrap s.f4 / 16777216 % 256]
theorem encode (l : List S24) (hll : l.length < 4611686018427387904) (d : Nat) : ∀ (k i : Nat) (acc : List Int), i ≤ l.length → l.length - i = d → d + 20 ≤ k → acc.length + 8 * d < 140737488355300 → insn_Encode.l0 k acc l (l.length : Int) (i : Int) = some (acc ++ (l.drop i).flatMap enc) := by
  induction d with
  | zero =>
    intro k i acc hi hd hk ha
    obtain ⟨k, rfl⟩ : ∃ q, k = q + 1 := ⟨k - 1, by omega⟩
    simp only [insn_Encode.l0]
    rw [if_neg (by omega), List.drop_eq_nil_of_le (by omega)]
    simp
  | succ d ih =>
    intro k i acc hi hd hk ha
    obtain ⟨k, rfl⟩ : ∃ q, k = q + 1 := ⟨k - 1, by omega⟩
    have hr : rd_T24 l (i : Int) = l[i]'(by omega) := by
      unfold rd_T24
      rw [Int.toNat_natCast, List.getD_eq_getElem?_getD, List.getElem?_eq_getElem (by omega)]
      rfl
    simp only [insn_Encode.l0]
    rw [if_pos (by omega), if_pos (by omega), if_pos (by omega), hr]
    simp only [Option.bind_some]
    rw [if_pos (by simp only [List.length_cons, List.length_nil]; omega)]
    rw [put2 k (by omega) _ _ (by simp only [List.length_append, List.length_cons, List.length_nil]; omega)]
    simp only [Option.bind_some]
    rw [put4 k (by omega) _ _ (by simp only [List.length_append, List.length_cons, List.length_nil]; omega)]
    simp only [Option.bind_some]
    rw [show wrap64 ((i : Int) + 1) = ((i + 1 : Nat) : Int) by unfold wrap64; omega, ih k (i + 1) _ (by omega) (by omega) (by omega) (by simp only [List.length_append, List.length_cons, List.length_nil]; omega)]
    rw [show l.drop i = l[i]'(by omega) :: l.drop (i + 1) from List.drop_eq_getElem_cons (by omega), List.flatMap_cons]
    simp [enc]
theorem f_encode (k : Nat) (l : List S24) (hk : l.length + 20 ≤ k) (hl : 8 * l.length < 140737488355300) : insn_Encode.f k l = some (l.flatMap enc) := by
  unfold insn_Encode.f
  have := encode l (by omega) l.length k 0 [] (by omega) (by omega) hk (by simp; omega)
  rw [List.drop_zero, List.nil_append] at this
  exact this
theorem i16_wrap (n : Int) : IntKind.i16.wrap n = (n + 32768) % 65536 - 32768 := by
  simp [IntKind.wrap, IntKind.bits, IntKind.signed]
  split <;> omega
theorem enc_slot {a b c d e f g h : Int} (hb : Byte b) (hc : Byte c) (hd : Byte d) (he : Byte e) (hf : Byte f) (hg : Byte g) (hh : Byte h) : enc (slot a b c d e f g h) = [a, b, c, d, e, f, g, h] := by
  obtain ⟨c0, c1⟩ := hc; obtain ⟨d0, d1⟩ := hd; obtain ⟨e0, e1⟩ := he; obtain ⟨f0, f1⟩ := hf; obtain ⟨g0, g1⟩ := hg; obtain ⟨h0, h1⟩ := hh
  unfold enc slot
  simp only [or_b hb, i16_wrap, IntKind.wrap_u64, wrap32]
  have x1 : ((c + 256 * d + 32768) % 65536 - 32768) % 18446744073709551616 % 256 = c := by omega
  have x2 : ((c + 256 * d + 32768) % 65536 - 32768) % 18446744073709551616 / 256 % 256 = d := by omega
  have x3 : ((e + 256 * f + 65536 * g + 16777216 * h + 2147483648) % 4294967296 - 2147483648) % 18446744073709551616 % 256 = e := by omega
  have x4 : ((e + 256 * f + 65536 * g + 16777216 * h + 2147483648) % 4294967296 - 2147483648) % 18446744073709551616 / 256 % 256 = f := by omega
  have x5 : ((e + 256 * f + 65536 * g + 16777216 * h + 2147483648) % 4294967296 - 2147483648) % 18446744073709551616 / 65536 % 256 = g := by omega
  have x6 : ((e + 256 * f + 65536 * g + 16777216 * h + 2147483648) % 4294967296 - 2147483648) % 18446744073709551616 / 16777216 % 256 = h := by omega
  rw [x1, x2, x3, x4, x5, x6]
theorem enc_dec (n : Nat) : ∀ l : List Int, l.length = 8 * n → (∀ x ∈ l, Byte x) → (dec l).flatMap enc = l := by
  induction n with
  | zero => intro l hl _; have : l = [] := List.length_eq_zero_iff.1 (by omega); subst this; rfl
  | succ n ih =>
    intro l hl hb
    match l, hl with
    | a :: b :: c :: d :: e :: f :: g :: h :: t, hl =>
      have hB : ∀ x ∈ ([a, b, c, d, e, f, g, h] : List Int), Byte x := fun x hx => hb x (by simp only [List.mem_cons, List.not_mem_nil, or_false] at hx ⊢; rcases hx with r | r | r | r | r | r | r | r <;> simp [r])
      simp only [dec, List.flatMap_cons]
      rw [ih t (by simp only [List.length_cons] at hl; omega) (fun x hx => hb x (by simp [hx])), enc_slot (hB b (by simp)) (hB c (by simp)) (hB d (by simp)) (hB e (by simp)) (hB f (by simp)) (hB g (by simp)) (hB h (by simp))]
      rfl
end Go.Proofs.Ytpkgegklpbholaa.SlotInsnLists
