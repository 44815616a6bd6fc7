/- The document's index (posternref06.Index), of the kinds 0, 1, 2: Find, Put, Del, walked by hand: what they answer of the keys by slot and of the times. -/
import Derived.Test.YtfbajampfiodeaaRx
import Derived.Deep.RegionLaw
namespace Go.Proofs.Ytfbajampfiodeaa.RxOps
open Go.RowKit Go.Proofs.Ytfbajampfiodeaa.PArrayPlays Go.Proofs.YtfbajampfiodeaaW.PrintWords Go.Proofs.YtfbajampfiodeaaW.PrintLast Go.Proofs.YtfbajampfiodeaaW.PrintMore Go.Proofs.Ytfbajampfiodeaa.Mw Go.Proofs.Ytfbajampfiodeaa.Rx
set_option linter.unusedVariables false
/-- The least free slot; -1. -/
def freeAt : List (Option (List Int)) → Nat → Int
  | [], _ => -1
  | k :: t, i => if k = none then (i : Int) else freeAt t (i + 1)
theorem free_some {ks : List (Option (List Int))} {i : Nat} {l : List Int} (h : ks[i]? = some (some l)) : freeAt (ks.drop i) i = freeAt (ks.drop (i + 1)) (i + 1) := by
  obtain ⟨hi, e⟩ := List.getElem?_eq_some_iff.1 h
  rw [List.drop_eq_getElem_cons hi, freeAt, e, if_neg (by simp)]
theorem free_none {ks : List (Option (List Int))} {i : Nat} (h : ks[i]? = some none) : freeAt (ks.drop i) i = (i : Int) := by
  obtain ⟨hi, e⟩ := List.getElem?_eq_some_iff.1 h
  rw [List.drop_eq_getElem_cons hi, freeAt, e, if_pos rfl]
theorem free_bound : ∀ (ks : List (Option (List Int))) (i : Nat), freeAt ks i = -1 ∨ ∃ r : Nat, freeAt ks i = (r : Int) ∧ i ≤ r ∧ r < i + ks.length := by
  intro ks
  induction ks with
  | nil => intro i; exact .inl rfl
  | cons k t ih =>
    intro i
    unfold freeAt
    by_cases h : k = none
    · rw [if_pos h]; exact .inr ⟨i, rfl, Nat.le_refl _, by simp⟩
    · rw [if_neg h]
      rcases ih (i + 1) with h | ⟨r, h1, h2, h3⟩
      · exact .inl h
      · exact .inr ⟨r, h1, by omega, by simp; omega⟩
/-- Of the first k slots the one touched longest ago. -/
def oldest (wn : List Int) : Nat → Nat
  | 0 => 0
  | k + 1 => if wn.getD k 0 < wn.getD (oldest wn k) 0 then k else oldest wn k
theorem oldest_lt (wn : List Int) : ∀ k n, k ≤ n → 0 < n → oldest wn k < n
  | 0, n, _, h => h
  | k + 1, n, h, h0 => by
    unfold oldest
    split
    · omega
    · exact oldest_lt wn k n (by omega) h0
section
variable {w : World} {F : Nat → Prop} {g gs gw : Nat} {kd sz mx ck : Int} {ks : List (Option (List Int))} {wn : List Int}
theorem Find_bad (h : RIx w F g gs gw kd sz mx ck ks wn) (hkd : kd ≠ 3) (A : Option Addr) (l c : Nat) (hl : (l : Int) ≠ sz) :
    Calls Try.prog 58 #[.pointer (some ⟨g, 0, none⟩), .slice A l c] w fun e w' => e = .returned (.int .i64 (-1)) ∧ ∃ n, w' = w.drewN n := by
  have H := Lib.hid h
  clear h
  go_enter Try.func58, Try.ntmps58
  go_wp2_with fail
  refine (Fits_ H.out hkd A l c).mono ?_
  rintro e w1 ⟨rfl, n, rfl⟩
  rw [decide_eq_false hl]
  go_wp2
  go_ret
  exact ⟨rfl, ⟨_, rfl⟩⟩
theorem same_slot (l : List Int) (ks : List (Option (List Int))) : sameAt l ks 0 = -1 ∨ ∃ i : Nat, sameAt l ks 0 = (i : Int) ∧ i < ks.length :=
  (same_bound l ks 0).imp id fun ⟨r, h1, _, h3⟩ => ⟨r, h1, by omega⟩
theorem Find_ (h : RIx w F g gs gw kd sz mx ck ks wn) (hkd : kd ≠ 3) (hck : ck < 4611686018427387904) (A : Option Addr) (c : Nat) (l : List Int) (hC : Kd.C (Kd.int .u8) w A l.length l) (hl : l.length ≤ c) (hsz : (l.length : Int) = sz) (hlb : ∀ x ∈ l, 0 ≤ x ∧ x ≤ 255) :
    Calls Try.prog 58 #[.pointer (some ⟨g, 0, none⟩), .slice A l.length c] w fun e w' => e = .returned (.int .i64 (sameAt l ks 0)) ∧ RIx w' F g gs gw kd sz mx (ck + 1) ks (touched wn (sameAt l ks 0) (ck + 1)) ∧ Step w w' F F := by
  have H := Lib.hid h
  have HC := Lib.hid hC; have HLB := Lib.hid hlb
  have b0 : (kd != 3) = true := by simpa using hkd
  clear h hC hlb
  go_enter Try.func58, Try.ntmps58
  go_wp2_with fail
  refine (Fits_ H.out hkd A l.length c).mono ?_
  rintro e w1 ⟨rfl, n, rfl⟩
  rw [decide_eq_true hsz]
  obtain ⟨c1, c2, g0, g1, g2, g3, g4, g5, gf, hc1, hc2⟩ := (H.out.drewN n).cells
  clear g1 g2 g3 g4 g5 gf hc1 hc2
  go_wp2_with fail
  refine (Same_ (H.out.drewN n) hkd A c l (Kd.C_drewN HC.out n) hl HLB.out).mono ?_
  rintro e w2 ⟨rfl, rfl⟩
  go_wp2_with fail
  refine (touch_ (H.out.drewN n) hck (sameAt l ks 0) (same_slot l ks)).mono ?_
  rintro e w3 ⟨rfl, hR, hO⟩
  have HR := Lib.hid hR; have HO := Lib.hid hO
  clear hR hO
  go_wp2
  go_ret
  exact ⟨rfl, HR.out, HO.out.undrewN⟩
/-- What Put answers without a new key. -/
def putOld (kd : Int) (sz : Int) (ks : List (Option (List Int))) (l : List Int) (f : Int) : Option (Int × Bool × Int) :=
  if (l.length : Int) ≠ sz then some (0, false, 2)
  else if f > 2 then some (0, false, 72)
  else if kd = 0 ∧ sameAt l ks 0 < 0 then some (0, false, 71)
  else if 0 ≤ sameAt l ks 0 ∧ f = 1 then some (0, false, 70)
  else if sameAt l ks 0 < 0 ∧ f = 2 then some (0, false, 14)
  else if sameAt l ks 0 < 0 ∧ freeAt ks 0 < 0 ∧ kd ≠ 2 then some (0, false, 71)
  else none
theorem Put_bad (h : RIx w F g gs gw kd sz mx ck ks wn) (hkd : kd ≠ 3) (A : Option Addr) (l c : Nat) (f : Int) (hl : (l : Int) ≠ sz) :
    Calls Try.prog 59 #[.pointer (some ⟨g, 0, none⟩), .slice A l c, .int .u64 f] w fun e w' => e = .returned (.tuple #[.int .i64 0, .bool false, .int .i64 2]) ∧ ∃ n, w' = w.drewN n := by
  have H := Lib.hid h
  clear h
  go_enter Try.func59, Try.ntmps59
  go_wp2_with fail
  refine (Fits_ H.out hkd A l c).mono ?_
  rintro e w1 ⟨rfl, n, rfl⟩
  rw [decide_eq_false hl]
  go_wp2
  go_ret3
  exact ⟨rfl, ⟨_, rfl⟩⟩
theorem Put_flags (h : RIx w F g gs gw kd sz mx ck ks wn) (hkd : kd ≠ 3) (A : Option Addr) (l c : Nat) (f : Int) (hl : (l : Int) = sz) (hf : f > 2) :
    Calls Try.prog 59 #[.pointer (some ⟨g, 0, none⟩), .slice A l c, .int .u64 f] w fun e w' => e = .returned (.tuple #[.int .i64 0, .bool false, .int .i64 72]) ∧ ∃ n, w' = w.drewN n := by
  have H := Lib.hid h
  clear h
  go_enter Try.func59, Try.ntmps59
  go_wp2_with fail
  refine (Fits_ H.out hkd A l c).mono ?_
  rintro e w1 ⟨rfl, n, rfl⟩
  rw [decide_eq_true hl]
  go_wp2
  go_ret3
  exact ⟨rfl, ⟨_, rfl⟩⟩
/-- The head of Put: up to the test of the flags against a key that is there. -/
theorem Put_full (h : RIx w F g gs gw kd sz mx ck ks wn) (hkd : kd ≠ 3) (A : Option Addr) (c : Nat) (l : List Int) (f : Int) (hC : Kd.C (Kd.int .u8) w A l.length l) (hl : l.length ≤ c) (hsz : (l.length : Int) = sz) (hlb : ∀ x ∈ l, 0 ≤ x ∧ x ≤ 255) (hf : ¬ f > 2) (h0 : kd = 0) (hs : sameAt l ks 0 < 0) :
    Calls Try.prog 59 #[.pointer (some ⟨g, 0, none⟩), .slice A l.length c, .int .u64 f] w fun e w' => e = .returned (.tuple #[.int .i64 0, .bool false, .int .i64 71]) ∧ ∃ n, w' = w.drewN n := by
  have H := Lib.hid h
  have HC := Lib.hid hC; have HLB := Lib.hid hlb
  have b0 : (kd == 0) = true := by simpa using h0
  clear h hC hlb
  go_enter Try.func59, Try.ntmps59
  go_wp2_with fail
  refine (Fits_ H.out hkd A l.length c).mono ?_
  rintro e w1 ⟨rfl, n, rfl⟩
  rw [decide_eq_true hsz]
  obtain ⟨c1, c2, g0, g1, g2, g3, g4, g5, gf, hc1, hc2⟩ := (H.out.drewN n).cells
  clear g1 g2 g3 g4 g5 gf hc1 hc2
  go_wp2_with fail
  refine (Same_ (H.out.drewN n) hkd A c l (Kd.C_drewN HC.out n) hl HLB.out).mono ?_
  rintro e w2 ⟨rfl, rfl⟩
  generalize sameAt l ks 0 = r at *
  clear h0
  go_wp2
  go_ret3
  exact ⟨rfl, ⟨_, rfl⟩⟩
theorem Put_exist (h : RIx w F g gs gw kd sz mx ck ks wn) (hkd : kd ≠ 3) (A : Option Addr) (c : Nat) (l : List Int) (f : Int) (hC : Kd.C (Kd.int .u8) w A l.length l) (hl : l.length ≤ c) (hsz : (l.length : Int) = sz) (hlb : ∀ x ∈ l, 0 ≤ x ∧ x ≤ 255) (hf : ¬ f > 2) (hs : 0 ≤ sameAt l ks 0) (hf1 : f = 1) :
    Calls Try.prog 59 #[.pointer (some ⟨g, 0, none⟩), .slice A l.length c, .int .u64 f] w fun e w' => e = .returned (.tuple #[.int .i64 0, .bool false, .int .i64 70]) ∧ ∃ n, w' = w.drewN n := by
  have H := Lib.hid h
  have HC := Lib.hid hC; have HLB := Lib.hid hlb
  clear h hC hlb
  go_enter Try.func59, Try.ntmps59
  go_wp2_with fail
  refine (Fits_ H.out hkd A l.length c).mono ?_
  rintro e w1 ⟨rfl, n, rfl⟩
  rw [decide_eq_true hsz]
  obtain ⟨c1, c2, g0, g1, g2, g3, g4, g5, gf, hc1, hc2⟩ := (H.out.drewN n).cells
  clear g1 g2 g3 g4 g5 gf hc1 hc2
  go_wp2_with fail
  refine (Same_ (H.out.drewN n) hkd A c l (Kd.C_drewN HC.out n) hl HLB.out).mono ?_
  rintro e w2 ⟨rfl, rfl⟩
  generalize sameAt l ks 0 = r at *
  subst hf1
  have hs2 : decide (r < 0) = false := decide_eq_false (by omega)
  by_cases h0 : kd = 0
  · have b0 : (kd == 0) = true := by simpa using h0
    clear h0
    go_wp2
    go_ret3
    exact ⟨rfl, ⟨_, rfl⟩⟩
  · have b0 : (kd == 0) = false := by simpa using h0
    clear h0
    go_wp2
    go_ret3
    exact ⟨rfl, ⟨_, rfl⟩⟩
theorem Put_none (h : RIx w F g gs gw kd sz mx ck ks wn) (hkd : kd ≠ 3) (A : Option Addr) (c : Nat) (l : List Int) (f : Int) (hC : Kd.C (Kd.int .u8) w A l.length l) (hl : l.length ≤ c) (hsz : (l.length : Int) = sz) (hlb : ∀ x ∈ l, 0 ≤ x ∧ x ≤ 255) (hs : sameAt l ks 0 < 0) (hf2 : f = 2) (h0 : kd ≠ 0) :
    Calls Try.prog 59 #[.pointer (some ⟨g, 0, none⟩), .slice A l.length c, .int .u64 f] w fun e w' => e = .returned (.tuple #[.int .i64 0, .bool false, .int .i64 14]) ∧ ∃ n, w' = w.drewN n := by
  have H := Lib.hid h
  have HC := Lib.hid hC; have HLB := Lib.hid hlb
  clear h hC hlb
  subst hf2
  go_enter Try.func59, Try.ntmps59
  go_wp2_with fail
  refine (Fits_ H.out hkd A l.length c).mono ?_
  rintro e w1 ⟨rfl, n, rfl⟩
  rw [decide_eq_true hsz]
  obtain ⟨c1, c2, g0, g1, g2, g3, g4, g5, gf, hc1, hc2⟩ := (H.out.drewN n).cells
  clear g1 g2 g3 g4 g5 gf hc1 hc2
  go_wp2_with fail
  refine (Same_ (H.out.drewN n) hkd A c l (Kd.C_drewN HC.out n) hl HLB.out).mono ?_
  rintro e w2 ⟨rfl, rfl⟩
  generalize sameAt l ks 0 = r at *
  have hs2 : decide (r < 0) = true := decide_eq_true (by omega)
  have hs3 : decide (r ≥ 0) = false := decide_eq_false (by omega)
  have b0 : (kd == 0) = false := by simpa using h0
  clear h0
  go_wp2
  go_ret3
  exact ⟨rfl, ⟨_, rfl⟩⟩
theorem Put_again (h : RIx w F g gs gw kd sz mx ck ks wn) (hkd : kd ≠ 3) (hck : ck < 4611686018427387904) (A : Option Addr) (c : Nat) (l : List Int) (f : Int) (hC : Kd.C (Kd.int .u8) w A l.length l) (hl : l.length ≤ c) (hsz : (l.length : Int) = sz) (hlb : ∀ x ∈ l, 0 ≤ x ∧ x ≤ 255) (hf : ¬ f > 2) (hs : 0 ≤ sameAt l ks 0) (hf1 : f ≠ 1) :
    Calls Try.prog 59 #[.pointer (some ⟨g, 0, none⟩), .slice A l.length c, .int .u64 f] w fun e w' => e = .returned (.tuple #[.int .i64 (sameAt l ks 0), .bool false, .int .i64 0]) ∧ RIx w' F g gs gw kd sz mx (ck + 1) ks (touched wn (sameAt l ks 0) (ck + 1)) ∧ Step w w' F F := by
  have H := Lib.hid h
  have HC := Lib.hid hC; have HLB := Lib.hid hlb
  have bf : (f == 1) = false := by simpa using hf1
  clear h hC hlb
  go_enter Try.func59, Try.ntmps59
  go_wp2_with fail
  refine (Fits_ H.out hkd A l.length c).mono ?_
  rintro e w1 ⟨rfl, n, rfl⟩
  rw [decide_eq_true hsz]
  obtain ⟨c1, c2, g0, g1, g2, g3, g4, g5, gf, hc1, hc2⟩ := (H.out.drewN n).cells
  clear g1 g2 g3 g4 g5 gf hc1 hc2
  go_wp2_with fail
  refine (Same_ (H.out.drewN n) hkd A c l (Kd.C_drewN HC.out n) hl HLB.out).mono ?_
  rintro e w2 ⟨rfl, rfl⟩
  have HT := Lib.hid (same_slot l ks)
  generalize hq : sameAt l ks 0 = r at *
  have HQ := Lib.hid hq
  clear hq
  have hs2 : decide (r < 0) = false := decide_eq_false (by omega)
  clear hf1
  by_cases h0 : kd = 0
  · have b0 : (kd == 0) = true := by simpa using h0
    clear h0
    go_wp2_with fail
    refine (touch_ (H.out.drewN n) hck r HT.out).mono ?_
    rintro e w3 ⟨rfl, hR, hO⟩
    have HR := Lib.hid hR; have HO := Lib.hid hO
    clear hR hO
    go_wp2
    go_ret3
    exact ⟨by rw [HQ.out]; rfl, by rw [HQ.out]; exact HR.out, HO.out.undrewN⟩
  · have b0 : (kd == 0) = false := by simpa using h0
    clear h0
    go_wp2_with fail
    refine (touch_ (H.out.drewN n) hck r HT.out).mono ?_
    rintro e w3 ⟨rfl, hR, hO⟩
    have HR := Lib.hid hR; have HO := Lib.hid hO
    clear hR hO
    go_wp2
    go_ret3
    exact ⟨by rw [HQ.out]; rfl, by rw [HQ.out]; exact HR.out, HO.out.undrewN⟩
theorem Del_0 (h : RIx w F g gs gw kd sz mx ck ks wn) (h0 : kd = 0) (A : Option Addr) (l c : Nat) :
    Calls Try.prog 60 #[.pointer (some ⟨g, 0, none⟩), .slice A l c] w fun e w' => e = .returned (.tuple #[.int .i64 0, .int .i64 2]) ∧ w = w' := by
  obtain ⟨c1, c2, g0, g1, g2, g3, g4, g5, gf, hc1, hc2⟩ := h.cells
  have b0 : (kd == 0) = true := by simpa using h0
  clear h h0 g1 g2 g3 g4 g5 gf hc1 hc2
  go_enter Try.func60, Try.ntmps60
  go_wp2
  go_ret2
  exact ⟨rfl, rfl⟩
theorem Del_bad (h : RIx w F g gs gw kd sz mx ck ks wn) (hkd : kd ≠ 3) (h0 : kd ≠ 0) (A : Option Addr) (l c : Nat) (hl : (l : Int) ≠ sz) :
    Calls Try.prog 60 #[.pointer (some ⟨g, 0, none⟩), .slice A l c] w fun e w' => e = .returned (.tuple #[.int .i64 0, .int .i64 2]) ∧ ∃ n, w' = w.drewN n := by
  obtain ⟨c1, c2, g0, g1, g2, g3, g4, g5, gf, hc1, hc2⟩ := h.cells
  have b0 : (kd == 0) = false := by simpa using h0
  have H := Lib.hid h
  clear h h0 g1 g2 g3 g4 g5 gf hc1 hc2
  go_enter Try.func60, Try.ntmps60
  go_wp2_with fail
  refine (Fits_ H.out hkd A l c).mono ?_
  rintro e w1 ⟨rfl, n, rfl⟩
  rw [decide_eq_false hl]
  go_wp2
  go_ret2
  exact ⟨rfl, ⟨_, rfl⟩⟩
theorem Del_none (h : RIx w F g gs gw kd sz mx ck ks wn) (hkd : kd ≠ 3) (h0 : kd ≠ 0) (A : Option Addr) (c : Nat) (l : List Int) (hC : Kd.C (Kd.int .u8) w A l.length l) (hl : l.length ≤ c) (hsz : (l.length : Int) = sz) (hlb : ∀ x ∈ l, 0 ≤ x ∧ x ≤ 255) (hs : sameAt l ks 0 < 0) :
    Calls Try.prog 60 #[.pointer (some ⟨g, 0, none⟩), .slice A l.length c] w fun e w' => e = .returned (.tuple #[.int .i64 0, .int .i64 14]) ∧ ∃ n, w' = w.drewN n := by
  obtain ⟨c1, c2, g0, g1, g2, g3, g4, g5, gf, hc1, hc2⟩ := h.cells
  have b0 : (kd == 0) = false := by simpa using h0
  have H := Lib.hid h
  have HC := Lib.hid hC; have HLB := Lib.hid hlb
  clear h h0 g1 g2 g3 g4 g5 gf hc1 hc2 hC hlb
  go_enter Try.func60, Try.ntmps60
  go_wp2_with fail
  refine (Fits_ H.out hkd A l.length c).mono ?_
  rintro e w1 ⟨rfl, n, rfl⟩
  rw [decide_eq_true hsz]
  go_wp2_with fail
  refine (Same_ (H.out.drewN n) hkd A c l (Kd.C_drewN HC.out n) hl HLB.out).mono ?_
  rintro e w2 ⟨rfl, rfl⟩
  generalize sameAt l ks 0 = r at *
  go_wp2
  go_ret2
  exact ⟨rfl, ⟨_, rfl⟩⟩
theorem Del_ (h : RIx w F g gs gw kd sz mx ck ks wn) (hkd : kd ≠ 3) (h0 : kd ≠ 0) (A : Option Addr) (c : Nat) (l : List Int) (hC : Kd.C (Kd.int .u8) w A l.length l) (hl : l.length ≤ c) (hsz : (l.length : Int) = sz) (hlb : ∀ x ∈ l, 0 ≤ x ∧ x ≤ 255) (i : Nat) (hs : sameAt l ks 0 = (i : Int)) (hi : i < ks.length) :
    Calls Try.prog 60 #[.pointer (some ⟨g, 0, none⟩), .slice A l.length c] w fun e w' => e = .returned (.tuple #[.int .i64 (i : Int), .int .i64 0]) ∧ RIx w' F g gs gw kd sz mx ck (ks.set i none) wn ∧ Step w w' F F := by
  obtain ⟨c1, c2, g0, g1, g2, g3, g4, g5, gf, hc1, hc2⟩ := h.cells
  have b0 : (kd == 0) = false := by simpa using h0
  have H := Lib.hid h
  have HC := Lib.hid hC; have HLB := Lib.hid hlb; have HS := Lib.hid hs
  obtain ⟨vs, hv, hr, hkv⟩ := h.row
  have s0 := hr.cell i (by omega)
  generalize vs[i]'(by omega) = u at s0
  have s1 := hr.frozen i
  have HK : Hid (RIx (w.setCell ⟨gs, i, none⟩ (.slice none 0 0)) F g gs gw kd sz mx ck (ks.set i none) wn) := Lib.hid (h.key i hi (.slice none 0 0) none rfl (fun _ e => by cases e))
  have HV := Lib.hid hv; have HR := Lib.hid hr; have HKV := Lib.hid hkv
  clear h h0 g1 g2 g4 g5 gf hc1 hc2 hC hlb hv hr hkv hs
  go_enter Try.func60, Try.ntmps60
  go_wp2_with fail
  refine (Fits_ H.out hkd A l.length c).mono ?_
  rintro e w1 ⟨rfl, n, rfl⟩
  rw [decide_eq_true hsz]
  go_wp2_with fail
  refine (Same_ (H.out.drewN n) hkd A c l (Kd.C_drewN HC.out n) hl HLB.out).mono ?_
  rintro e w2 ⟨rfl, rfl⟩
  rw [HS.out]
  go_wp2
  go_ret2
  exact ⟨rfl, HK.out.drewN n, ((Step.refl _ _).setCell (.inl H.out.inF.2.1) _).drewN n⟩
end
end Go.Proofs.Ytfbajampfiodeaa.RxOps
