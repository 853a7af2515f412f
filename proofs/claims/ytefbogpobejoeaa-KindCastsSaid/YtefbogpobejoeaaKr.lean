/- Layer 5's reference, sixth part: the float64 next to a number. -/
import Derived.Test.YtefbogpobejoeaaKq
set_option linter.unusedSimpArgs false
set_option linter.unusedVariables false
namespace Go.Proofs.Ytefbogpobejoeaa
open Go.RowKit

/-- the last bit that was cut, behind k rounds -/
def hlB (m : Nat) : Nat → Bool
  | 0 => false
  | k + 1 => (((m / 2 ^ k : Nat) : Int) % 2 == 1)
/-- was any bit cut before it? -/
def ltB (m : Nat) : Nat → Bool
  | 0 => false
  | k + 1 => !(decide (m % 2 ^ k = 0))
theorem lo_step (m k : Nat) : ltB m (k + 1) = (ltB m k || hlB m k) := by
  cases k with
  | zero => simp [ltB, hlB, Nat.mod_one]
  | succ j =>
    have hp := Nat.two_pow_pos j
    simp only [ltB, hlB]
    rw [Nat.mod_pow_succ]
    have h2 : m / 2 ^ j % 2 = 0 ∨ m / 2 ^ j % 2 = 1 := by omega
    rw [Bool.eq_iff_iff]
    simp only [Bool.not_eq_true', decide_eq_false_iff_not, Bool.or_eq_true, beq_iff_eq]
    generalize 2 ^ j = P at *
    generalize m / P = Q at *
    rcases h2 with h | h
    · rw [h]; omega
    · rw [h]; omega
theorem rup_is (m : Nat) (h : 52 < m.log2) : rup m = (hlB m (m.log2 - 52) && (ltB m (m.log2 - 52) || ((sgn m : Int) % 2 == 1))) := by
  have hs : sgn m = m / 2 ^ (m.log2 - 52) := by rw [sgn, if_neg (by omega)]
  rw [hs, rup, decide_eq_true h, Bool.true_and]
  obtain ⟨j, hj⟩ : ∃ j, m.log2 - 52 = j + 1 := ⟨m.log2 - 53, by omega⟩
  rw [hj]
  simp only [ltB, hlB]
  have e := Nat.mod_pow_succ (x := m) (b := 2) (k := j)
  rw [e]
  clear e
  have hp := Nat.two_pow_pos j
  have h2 : m / 2 ^ j % 2 = 0 ∨ m / 2 ^ j % 2 = 1 := by omega
  have hlt := Nat.mod_lt m hp
  rw [Nat.pow_succ]
  generalize m / (2 ^ j * 2) = R at *
  generalize 2 ^ j = P at *
  generalize m % P = S at *
  generalize m / P = Q at *
  rw [Bool.eq_iff_iff]
  simp only [Bool.or_eq_true, Bool.and_eq_true, decide_eq_true_eq, beq_iff_eq, Bool.not_eq_true', decide_eq_false_iff_not]
  rcases h2 with h | h
  · rw [h]; omega
  · rw [h]; omega
theorem div_big {m k : Nat} (h0 : m ≠ 0) (h : k < m.log2 - 52) : 9007199254740992 ≤ m / 2 ^ k := by
  have h1 := Nat.log2_self_le h0
  rw [Nat.le_div_iff_mul_le (Nat.two_pow_pos k)]
  calc 9007199254740992 * 2 ^ k = 2 ^ (53 + k) := by rw [Nat.pow_add]
    _ ≤ 2 ^ m.log2 := Nat.pow_le_pow_right (by decide) (by omega)
    _ ≤ m := h1
theorem mul_small {m k : Nat} (h0 : m ≠ 0) (h : k < 52 - m.log2) : m * 2 ^ k < 4503599627370496 := by
  have h1 : m < 2 ^ (m.log2 + 1) := Nat.lt_log2_self
  calc m * 2 ^ k < 2 ^ (m.log2 + 1) * 2 ^ k := Nat.mul_lt_mul_of_pos_right h1 (Nat.two_pow_pos k)
    _ = 2 ^ (m.log2 + 1 + k) := by rw [← Nat.pow_add]
    _ ≤ 2 ^ 52 := Nat.pow_le_pow_right (by decide) (by omega)
/-- what the reference's Float gives -/
def refF (m : Nat) (minus : Bool) : Int := if m = 0 then 0 else (fBits minus m : Int)

set_option maxHeartbeats 1600000 in
theorem rFloat_zero (minus : Bool) (w : World) : Calls Try.prog 31 #[.int .u64 0, .bool minus] w fun e w' => e = .returned (.int .u64 0) ∧ w = w' := by
  go_enter Try.func31, Try.ntmps31
  go_wp2
  go_ret
  exact ⟨rfl, rfl⟩

set_option maxHeartbeats 3200000 in
theorem rFloat_big (m : Nat) (h0 : m ≠ 0) (h1 : m < 18446744073709551616) (hL : 52 < m.log2) (minus : Bool) (r : Int) (hr : (fBits minus m : Int) = r) (w : World) : Calls Try.prog 31 #[.int .u64 m, .bool minus] w fun e w' => e = .returned (.int .u64 r) ∧ w = w' := by
  have hl64 : m.log2 < 64 := by rw [Nat.log2_lt h0]; omega
  have t0 : ((m : Int) == 0) = false := by simpa using h0
  have hsg := sgn_bd m h0
  have hrp := rup_is m hL
  have hsd : m / 2 ^ (m.log2 - 52) = sgn m := by rw [sgn, if_neg (by omega)]
  rw [fBits, if_neg h0] at hr
  have hbig := fun k => div_big (m := m) (k := k) h0
  obtain ⟨K, hK⟩ : ∃ K, m.log2 - 52 = K := ⟨_, rfl⟩
  rw [hK] at hrp hsd hbig
  have hKL : m.log2 = K + 52 := by omega
  rw [hKL] at hr
  go_enter Try.func31, Try.ntmps31
  go_wp2
  go_loop [0, 5, 6, 7] (fun x p lo hf => ∃ k : Nat, k ≤ K ∧ x = .int .u64 ((m / 2 ^ k : Nat) : Int) ∧ p = .int .i64 (1075 + k) ∧ lo = .bool (ltB m k) ∧ hf = .bool (hlB m k)) (fun _ p _ _ => K + 1075 - (intOf p).toNat)
  case atStart => exact ⟨0, by omega, by simp, by simp, rfl, rfl⟩
  case round =>
    obtain ⟨k, hk, rfl, rfl, rfl, rfl⟩ := hrel
    by_cases hlt : k < K
    · have hb := hbig k hlt
      have hle : m / 2 ^ k ≤ m := Nat.div_le_self _ _
      have hst := lo_step m k
      have hh : hlB m (k + 1) = (((m / 2 ^ k : Nat) : Int) % 2 == 1) := rfl
      have hd : m / 2 ^ (k + 1) = m / 2 ^ k / 2 := by rw [Nat.pow_succ, Nat.div_div_eq_div_mul]
      generalize hx : m / 2 ^ k = x at *
      have g1 : decide (9007199254740992 ≤ (x : Int)) = true := by simp; omega
      generalize ltB m k = a at *
      generalize hlB m k = b at *
      clear hrp hsd hsg hr
      cases a
      all_goals
        go_wp2
        go_round
        case rel => exact ⟨k + 1, by omega, by rw [hd]; go_num, by go_num, by rw [hst]; rfl, by rw [hh]⟩
        case measure => simp [intOf]; omega
    · obtain rfl : k = K := by omega
      rw [hsd]
      generalize sgn m = g at *
      generalize ltB m k = a at *
      generalize hlB m k = b at *
      generalize rup m = u at *
      have hkk : k ≤ 11 := by omega
      clear hbig hsd hK hKL h0 h1 hL t0 hl64 hk hlt
      obtain ⟨g0, g1⟩ := hsg
      have z1 : decide (9007199254740992 ≤ (g : Int)) = false := by simp; omega
      have z2 : decide ((g : Int) < 4503599627370496) = false := by simp; omega
      obtain ⟨c, hc⟩ : ∃ c, ((g : Int) % 2 == 1) = c := ⟨_, rfl⟩
      rw [hc] at hrp
      go_wp2
      go_loop [0, 5] (fun x p => x = .int .u64 (g : Int) ∧ p = .int .i64 (1075 + k)) (fun _ _ => 0)
      case atStart => exact ⟨rfl, rfl⟩
      case round =>
        obtain ⟨rfl, rfl⟩ := hrel
        cases b <;> cases a <;> cases c <;> cases minus
        all_goals
          simp only [Bool.and_false, Bool.false_and, Bool.and_true, Bool.true_and, Bool.or_true, Bool.true_or, Bool.or_false, Bool.false_or] at hrp
          subst hrp
          simp only [Bool.toNat_false, Bool.toNat_true, Bool.false_eq_true, if_true, if_false] at hr
          go_wp2
          go_ret
          exact ⟨ret_int (by omega), rfl⟩

set_option maxHeartbeats 3200000 in
theorem rFloat_small (m : Nat) (h0 : m ≠ 0) (h1 : m < 18446744073709551616) (hL : m.log2 ≤ 52) (minus : Bool) (r : Int) (hr : (fBits minus m : Int) = r) (w : World) : Calls Try.prog 31 #[.int .u64 m, .bool minus] w fun e w' => e = .returned (.int .u64 r) ∧ w = w' := by
  have t0 : ((m : Int) == 0) = false := by simpa using h0
  have hsg := sgn_bd m h0
  have hrp : rup m = false := by rw [rup, decide_eq_false (by omega)]; rfl
  have hsd : m * 2 ^ (52 - m.log2) = sgn m := by rw [sgn, if_pos hL]
  have hm : m < 9007199254740992 := by
    have := (Nat.log2_lt (n := m) (k := 53) h0).1 (by omega)
    omega
  rw [fBits, if_neg h0, hrp] at hr
  have hbig := fun k => mul_small (m := m) (k := k) h0
  obtain ⟨K, hK⟩ : ∃ K, 52 - m.log2 = K := ⟨_, rfl⟩
  rw [hK] at hsd hbig
  obtain ⟨L, hKL⟩ : ∃ L, m.log2 = L := ⟨_, rfl⟩
  rw [hKL] at hr
  have hLK : L + K = 52 := by omega
  have z1 : decide (9007199254740992 ≤ (m : Int)) = false := by simp; omega
  go_enter Try.func31, Try.ntmps31
  go_wp2
  go_loop [0, 5, 6, 7] (fun x p lo hf => x = .int .u64 (m : Int) ∧ p = .int .i64 1075 ∧ lo = .bool false ∧ hf = .bool false) (fun _ _ _ _ => 0)
  case atStart => exact ⟨rfl, rfl, rfl, rfl⟩
  case round =>
    obtain ⟨rfl, rfl, rfl, rfl⟩ := hrel
    go_wp2
    go_loop [0, 5] (fun x p => ∃ k : Nat, k ≤ K ∧ x = .int .u64 ((m * 2 ^ k : Nat) : Int) ∧ p = .int .i64 (1075 - (k : Int))) (fun _ p => ((intOf p) - 1023).toNat)
    case atStart => exact ⟨0, by omega, by simp, by simp⟩
    case round =>
      obtain ⟨k, hk, rfl, rfl⟩ := hrel
      by_cases hlt : k < K
      · have hb := hbig k hlt
        have hd : m * 2 ^ (k + 1) = m * 2 ^ k * 2 := by rw [Nat.pow_succ, Nat.mul_assoc]
        generalize hx : m * 2 ^ k = x at *
        have g1 : decide ((x : Int) < 4503599627370496) = true := by simp; omega
        clear hrp hsd hsg hr hbig
        go_wp2
        go_round
        case rel => exact ⟨k + 1, by omega, by rw [hd]; (first | rfl | (simp; done) | (simp; omega)), by rw [show (1075 - (k : Int) - 1) = 1075 - ((k + 1 : Nat) : Int) by omega]⟩
        case measure => simp [intOf]; omega
      · obtain rfl : k = K := by omega
        rw [hsd]
        generalize sgn m = g at *
        clear hbig hsd hK h0 hL t0 hk hlt hrp hKL z1
        obtain ⟨g0, g1⟩ := hsg
        have z2 : decide ((g : Int) < 4503599627370496) = false := by simp; omega
        cases minus
        all_goals
          simp only [Bool.toNat_false, Bool.toNat_true, Bool.false_eq_true, if_true, if_false] at hr
          go_wp2
          go_ret
          exact ⟨ret_int (by omega), rfl⟩
end Go.Proofs.Ytefbogpobejoeaa
