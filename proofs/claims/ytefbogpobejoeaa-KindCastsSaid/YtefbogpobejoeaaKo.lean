/- Layer 5's laws: numbers that a float64 holds. -/
import Derived.Test.YtefbogpobejoeaaKn
set_option linter.unusedSimpArgs false
set_option linter.unusedVariables false
namespace Go.Proofs.Ytefbogpobejoeaa
open Go.RowKit

theorem fB_parts (s : Bool) (m : Nat) (h : m ≠ 0) (hL : m.log2 ≤ 1000) (he : exact53 m) : fld (fBits s m) = m.log2 + 1023 ∧ frc (fBits s m) = sgn m - 4503599627370496 ∧ ngB (fBits s m) = s := by
  have hb := sgn_bd m h
  have hr := rup_exact he
  unfold fBits
  rw [if_neg h, hr]
  simp only [Bool.toNat_false, Nat.add_zero]
  generalize hq : m.log2 = L at *
  generalize sgn m = g at *
  obtain ⟨t, rfl⟩ : ∃ t, g = t + 4503599627370496 := ⟨g - 4503599627370496, by omega⟩
  cases s
  · simp only [Bool.false_eq_true, if_false]
    unfold fld frc ngB
    refine ⟨by omega, by omega, by simp; omega⟩
  · simp only [if_true]
    unfold fld frc ngB
    refine ⟨by omega, by omega, by simp⟩
theorem exact_small {m : Nat} (h0 : m ≠ 0) (h : m ≤ 9007199254740992) : exact53 m ∧ m.log2 ≤ 53 := by
  have hl : m.log2 ≤ 53 := by
    have := (Nat.log2_lt (n := m) (k := 54) h0).2 (by omega)
    omega
  refine ⟨?_, hl⟩
  unfold exact53
  rcases (by omega : m.log2 ≤ 52 ∨ m.log2 = 53) with h1 | h1
  · rw [show m.log2 - 52 = 0 by omega]; omega
  · have := (Nat.le_log2 (n := m) (k := 53) h0).1 (by omega)
    have : m = 9007199254740992 := by omega
    subst this
    rw [h1]
theorem wholeZ_small (s : Bool) (m : Nat) (h : m ≤ 9007199254740992) : wholeZ (fBits s m) = if s = true then -(m : Int) else (m : Int) := by
  by_cases h0 : m = 0
  · subst h0
    have c0 : ∀ e : Int, e = -1075 → cutN (4503599627370496 + 0) e = 0 := fun e he => by
      obtain ⟨J, hJ⟩ : ∃ J, (-e).toNat = J := ⟨_, rfl⟩
      have h53 : 53 ≤ J := by omega
      unfold cutN
      rw [hJ, show e.toNat = 0 by omega, Nat.pow_zero, Nat.mul_one]
      exact Nat.div_eq_of_lt (Nat.lt_of_lt_of_le (show 4503599627370496 + 0 < 2 ^ 53 by decide) (Nat.pow_le_pow_right (by decide) h53))
    have e1 : fld (fBits s 0) = 0 := by cases s <;> rfl
    have e2 : frc (fBits s 0) = 0 := by cases s <;> rfl
    unfold wholeZ
    rw [e1, e2, c0 _ (by omega), if_neg (by omega), if_neg (by omega)]
    simp
  · obtain ⟨he, hl⟩ := exact_small h0 h
    obtain ⟨e1, e2, e3⟩ := fB_parts s m h0 (by omega) he
    have hb := sgn_bd m h0
    unfold wholeZ
    rw [e1, e2, e3, if_neg (by omega), if_neg (by omega), show 4503599627370496 + (sgn m - 4503599627370496) = sgn m by omega,
      show ((m.log2 + 1023 : Nat) : Int) - 1075 = (m.log2 : Int) - 52 by omega, cut_exact m he]

/-- a number's bits, as a float64 -/
def floatZ (n : Int) : Nat := if n < 0 then fBits true (-n).toNat else fBits false n.toNat
theorem floatZ_lt (n : Int) (h0 : -9007199254740992 ≤ n) (h1 : n ≤ 9007199254740992) : floatZ n < 18446744073709551616 := by
  unfold floatZ
  split
  · refine fBits_lt _ _ ?_
    by_cases hz : (-n).toNat = 0
    · rw [hz]; decide
    · have := (exact_small hz (by omega)).2; omega
  · refine fBits_lt _ _ ?_
    by_cases hz : n.toNat = 0
    · rw [hz]; decide
    · have := (exact_small hz (by omega)).2; omega
theorem wholeZ_float (n : Int) (h0 : -9007199254740992 ≤ n) (h1 : n ≤ 9007199254740992) : wholeZ (floatZ n) = n := by
  unfold floatZ
  split
  · rw [wholeZ_small _ _ (by omega), if_pos rfl]; omega
  · rw [wholeZ_small _ _ (by omega), if_neg (by simp)]; omega
theorem castZ_8 (n : Int) (h0 : -9007199254740992 ≤ n) (h1 : n ≤ 9007199254740992) : castZ (n % 18446744073709551616) 8 10 = floatZ n := by
  unfold castZ floatZ
  rw [if_neg (by simp [btw]), if_pos (by simp [btw])]
  split
  · rw [if_pos (by omega)]; congr 2; omega
  · rw [if_neg (by omega)]; congr 2; omega
theorem castZ_10 (n : Int) (h0 : -9007199254740992 ≤ n) (h1 : n ≤ 9007199254740992) : castZ (floatZ n : Int) 10 8 = n % 18446744073709551616 := by
  unfold castZ
  rw [if_neg (by simp), if_neg (by simp), if_pos (by simp), Int.toNat_natCast, wholeZ_float n h0 h1]
theorem right_8 (b : Int) (h0 : 0 ≤ b) (h1 : b < 18446744073709551616) : rightB 8 b ⟨#[]⟩ 8 0 = true := by
  have e : fitB b 8 0 = true := by
    unfold fitB
    rw [if_neg (by decide), if_neg (by decide), show longZ 8 0 = 8 by decide, show btw 5 8 8 = true by decide]
    simp [fitsB, widthB, signZ_8 b h0 h1]
  simp only [rightB, e, Bool.and_true]
  decide
theorem right_10 (b : Int) : rightB 10 b ⟨#[]⟩ 10 0 = true := by
  have e : fitB b 10 0 = true := by simp [fitB]
  simp only [rightB, e, Bool.and_true]
  decide
theorem castV_810 (n : Int) (h0 : -9007199254740992 ≤ n) (h1 : n ≤ 9007199254740992) : castV 8 (n % 18446744073709551616) ⟨#[]⟩ 8 0 10 0 = .agg #[.int .i64 10, .int .u64 (floatZ n : Int), .string ⟨#[]⟩] ∧ castE 8 (n % 18446744073709551616) ⟨#[]⟩ 8 0 10 0 = 0 := by
  have hr := right_8 (n % 18446744073709551616) (by omega) (by omega)
  rw [castV, castE, hr, show castsB 8 0 10 0 = true by decide, castZ_8 n h0 h1]
  simp [castT]
theorem castV_108 (n : Int) (h0 : -9007199254740992 ≤ n) (h1 : n ≤ 9007199254740992) : castV 10 (floatZ n : Int) ⟨#[]⟩ 10 0 8 0 = .agg #[.int .i64 8, .int .u64 (n % 18446744073709551616), .string ⟨#[]⟩] ∧ castE 10 (floatZ n : Int) ⟨#[]⟩ 10 0 8 0 = 0 := by
  rw [castV, castE, right_10, show castsB 10 0 8 0 = true by decide, castZ_10 n h0 h1]
  simp [castT]
end Go.Proofs.Ytefbogpobejoeaa
