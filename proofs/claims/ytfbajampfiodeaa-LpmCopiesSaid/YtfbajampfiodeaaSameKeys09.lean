/- sameKeys of the law: are the lists of keys alike, walked by hand. -/
import Derived.Test.YtfbajampfiodeaaFresh
import Derived.BigQuiet
namespace Go.Proofs.Ytfbajampfiodeaa.SameKeys09
open Go.RowKit Go.Proofs.Ytfbajampfiodeaa.PArrayPlays Go.Proofs.YtfbajampfiodeaaW.PrintWords Go.Proofs.YtfbajampfiodeaaW.PrintLast Go.Proofs.YtfbajampfiodeaaW.PrintMore Go.Proofs.Ytfbajampfiodeaa.Rx Go.Proofs.Ytfbajampfiodeaa.RxPut
set_option linter.unusedVariables false
def Bytes (xs : List (List Int)) : Prop := ∀ l ∈ xs, ∀ x ∈ l, 0 ≤ x ∧ x ≤ 255
theorem take_eq {xs ys : List (List Int)} {k : Nat} (h : xs.take k = ys.take k) (h1 : xs[k]? = ys[k]?) : xs.take (k + 1) = ys.take (k + 1) := by
  rw [List.take_add_one, List.take_add_one, h, h1]
theorem sameKeys_ (w : World) (A1 A2 : Option Addr) (c1 c2 : Nat) (xs ys : List (List Int)) (h1 : Kd.C (Kd.slice 5 (Kd.int .u8)) w A1 xs.length xs) (h2 : Kd.C (Kd.slice 5 (Kd.int .u8)) w A2 ys.length ys) (b1 : Bytes xs) (b2 : Bytes ys) (n1 : xs.length ≤ 9223372036854775807) :
    Calls Try.prog 54 #[.slice A1 xs.length c1, .slice A2 ys.length c2] w fun e w' => e = .returned (.bool (decide (xs = ys))) ∧ ∃ n, w' = w.drewN n := by
  by_cases hl : xs.length = ys.length
  · have H1 := Lib.hid h1; have H2 := Lib.hid h2; have B1 := Lib.hid b1; have B2 := Lib.hid b2
    have t0 : (xs.length : Int) = (ys.length : Int) := by omega
    rw [show ys.length = xs.length from hl.symm]
    have HL := Lib.hid hl
    rw [← hl] at H2
    clear h1 h2 b1 b2 t0 hl
    obtain ⟨n, hn⟩ : ∃ n, n = xs.length := ⟨_, rfl⟩
    have HN := Lib.hid hn
    rw [← hn] at H1 H2 n1 ⊢
    clear hn
    go_enter Try.func54, Try.ntmps54
    go_wp2
    go_loopw [13] (fun i wr => ∃ k : Nat, k ≤ n ∧ i = .int .i64 (k : Int) ∧ Hid (xs.take k = ys.take k) ∧ Hid (∃ q, wr = w.drewN q)) (fun i _ => n - (intOf i).toNat)
    case atStart => exact ⟨0, Nat.zero_le _, rfl, Lib.hid rfl, Lib.hid ⟨0, rfl⟩⟩
    case round =>
      obtain ⟨k, hk, rfl, HT, HD⟩ := hrel
      by_cases hlt : k < n
      · have H1r : Hid (Kd.C (Kd.slice 5 (Kd.int .u8)) wr A1 n xs) := Lib.hid (by obtain ⟨q, rfl⟩ := HD.out; exact Kd.C_drewN H1.out q)
        have H2r : Hid (Kd.C (Kd.slice 5 (Kd.int .u8)) wr A2 n ys) := Lib.hid (by obtain ⟨q, rfl⟩ := HD.out; exact Kd.C_drewN H2.out q)
        obtain ⟨ad1, a1, d1, rfl, x1, l1, C1⟩ := at_L1 H1r.out (k : Int) (by omega) (by omega)
        obtain ⟨ad2, a2, d2, rfl, x2, l2, C2⟩ := at_L1 H2r.out (k : Int) (by omega) (by omega)
        rw [Int.toNat_natCast] at x1 x2
        have e1 : xs[k]? = some (rd_L1 xs k) := by
          unfold rd_L1
          rw [Int.toNat_natCast, List.getD_eq_getElem?_getD, List.getElem?_eq_getElem (by have := HN.out; omega)]
          rfl
        have e2 : ys[k]? = some (rd_L1 ys k) := by
          unfold rd_L1
          rw [Int.toNat_natCast, List.getD_eq_getElem?_getD, List.getElem?_eq_getElem (by have := HN.out; have := HL.out; omega)]
          rfl
        generalize rd_L1 xs k = u at *
        generalize rd_L1 ys k = v at *
        have s1 := fun m => Kd.C_string (P := Try.prog) (A := a1) (c := d1) Try.underlying32 Try.underlying5 Try.underlying9 (Kd.C_drewN C1 m)
        have s2 := fun m => Kd.C_string (P := Try.prog) (A := a2) (c := d2) Try.underlying32 Try.underlying5 Try.underlying9 (Kd.C_drewN C2 m)
        have hltI : (k : Int) < (n : Int) := by omega
        by_cases he : u = v
        · subst he
          have HT2 := Lib.hid (take_eq HT.out (e1.trans e2.symm))
          have hs1 : ((strOfNums u).toList == (strOfNums u).toList) = true := by simp
          clear e1 e2 C1 C2 HT H1r H2r
          go_wp2
          go_quiet (fail)
          go_wp2
          go_roundw
          case rel => exact ⟨k + 1, by omega, by go_num, HT2, Lib.hid (by obtain ⟨q, rfl⟩ := HD.out; exact ⟨_, drew2 _ _ _⟩)⟩
          case measure => simp [intOf]; omega
        · have HNE : Hid (¬ xs = ys) := Lib.hid (fun e => he (by subst e; exact Option.some.inj (e1.symm.trans e2)))
          have hs1 : ((strOfNums u).toList == (strOfNums v).toList) = false := by
            rw [beq_eq_false_iff_ne]
            exact fun e => he (str_inj (B1.out u (List.mem_of_getElem? e1)) (B2.out v (List.mem_of_getElem? e2)) e)
          clear e1 e2 C1 C2 HT H1r H2r he
          go_wp2
          go_quiet (fail)
          go_wp2
          go_ret
          exact ⟨by rw [decide_eq_false HNE.out]; rfl, by obtain ⟨q, rfl⟩ := HD.out; exact ⟨_, drew2 _ _ _⟩⟩
      · obtain rfl : k = n := by omega
        have HE : Hid (xs = ys) := Lib.hid (by
          have h1 := HT.out
          have := HN.out; have := HL.out
          rwa [List.take_of_length_le (by omega), List.take_of_length_le (by omega)] at h1)
        go_wp2
        go_ret
        exact ⟨by rw [decide_eq_true HE.out]; rfl, HD.out⟩
  · have HNE : Hid (¬ xs = ys) := Lib.hid (fun e => hl (by rw [e]))
    have t0 : ¬ ((xs.length : Int) = (ys.length : Int)) := by omega
    clear hl h1 h2
    go_enter Try.func54, Try.ntmps54
    go_wp2
    go_ret
    exact ⟨by rw [decide_eq_false HNE.out]; rfl, ⟨0, rfl⟩⟩
end Go.Proofs.Ytfbajampfiodeaa.SameKeys09
