/- Layer 5's reference, fourth part: the whole of a float64. -/
import Derived.Test.YtefbogpobejoeaaKn
import Derived.Deep.DeepCutAuto
set_option linter.unusedSimpArgs false
set_option linter.unusedVariables false
namespace Go.Proofs.Ytefbogpobejoeaa
open Go.RowKit

theorem whole_parts (b : Int) (h0 : 0 ≤ b) (e q : Int) (he : b / 4503599627370496 % 2048 - 1075 = e) (hq : b % 4503599627370496 = q) : wholeZ b.toNat = if e = 972 ∧ q ≠ 0 then 0 else if 11 ≤ e then (if 9223372036854775808 ≤ b then -9223372036854775808 else 9223372036854775807) else if 9223372036854775808 ≤ b then -(cutN (4503599627370496 + q.toNat) e : Int) else (cutN (4503599627370496 + q.toNat) e : Int) := by
  have h1 : (fld b.toNat : Int) = e + 1075 := by unfold fld; omega
  have h2 : frc b.toNat = q.toNat := by unfold frc; omega
  have h3 : (ngB b.toNat = true) ↔ 9223372036854775808 ≤ b := by simp [ngB]; omega
  unfold wholeZ
  rw [h2, show (fld b.toNat : Int) - 1075 = e by omega]
  have c1 : (fld b.toNat = 2047 ∧ q.toNat ≠ 0) ↔ (e = 972 ∧ q ≠ 0) := by omega
  have c2 : (1086 ≤ fld b.toNat) ↔ 11 ≤ e := by omega
  simp only [c1, c2, h3]
theorem cut_up (d : Nat) (k : Nat) : cutN d (k : Int) = d * 2 ^ k := by
  unfold cutN
  rw [show (-(k : Int)).toNat = 0 by omega, Int.toNat_natCast]; simp
theorem cut_down (d : Nat) (k : Nat) : cutN d (-(k : Int)) = d / 2 ^ k := by
  unfold cutN
  rw [show (-(k : Int)).toNat = 0 by omega, show (-(-(k : Int))).toNat = k by omega]; simp
theorem pow_small {d k : Nat} (hd : d < 9007199254740992) (hk : k ≤ 10) : d * 2 ^ k < 9223372036854775808 := by
  have : 2 ^ k ≤ 2 ^ 10 := Nat.pow_le_pow_right (by decide) hk
  calc d * 2 ^ k ≤ d * 2 ^ 10 := Nat.mul_le_mul_left _ this
    _ < _ := by omega

set_option maxHeartbeats 1600000 in
theorem rWhole_calls (b : Int) (h0 : 0 ≤ b) (h1 : b < 18446744073709551616) (w : World) :
    Calls Try.prog 18 #[.int .u64 b] w fun e w' => e = .returned (.int .i64 (wholeZ b.toNat)) ∧ w = w' := by
  obtain ⟨r, hr⟩ : ∃ r, wholeZ b.toNat = r := ⟨_, rfl⟩
  rw [hr]
  go_enter Try.func18, Try.ntmps18
  go_upto_region 4 with fail
  have hp := whole_parts b h0 _ _ rfl rfl
  have he0 : -1075 ≤ b / 4503599627370496 % 2048 - 1075 ∧ b / 4503599627370496 % 2048 - 1075 ≤ 972 := by omega
  generalize b / 4503599627370496 % 2048 - 1075 = e at *
  rw [hr] at hp
  clear hr
  obtain ⟨e0, e1⟩ := he0
  obtain ⟨ng, hng⟩ : ∃ ng, decide (9223372036854775808 ≤ b) = ng := ⟨_, rfl⟩
  have hng' : (9223372036854775808 ≤ b) ↔ ng = true := by rw [← hng]; simp
  simp only [hng'] at hp
  clear hng'
  rw [hng]
  clear hng
  by_cases c1 : e = 972 ∧ b % 4503599627370496 ≠ 0
  · rw [if_pos c1] at hp
    obtain ⟨rfl, c2⟩ := c1
    have t1 : (b % 4503599627370496 != 0) = true := by simpa using c2
    subst hp
    go_wp2
    go_ret
    exact ⟨rfl, rfl⟩
  · rw [if_neg c1] at hp
    have t1 : (e == 972) = false ∨ (e = 972 ∧ (b % 4503599627370496 != 0) = false) := by
      by_cases h : e = 972
      · exact .inr ⟨h, by simpa [h] using c1⟩
      · exact .inl (by simpa using h)
    clear c1
    by_cases c2 : 11 ≤ e
    · rw [if_pos c2] at hp
      rcases t1 with t1 | ⟨rfl, t1⟩ <;> cases ng
      all_goals
        simp only [Bool.false_eq_true, if_true, if_false] at hp
        subst hp
        go_wp2
        go_ret
        exact ⟨rfl, rfl⟩
    · rw [if_neg c2] at hp
      have t1 : (e == 972) = false := by simp; omega
      have t2 : decide (11 ≤ e) = false := by simpa using c2
      by_cases c3 : e < -52
      · have hz : cutN (4503599627370496 + (b % 4503599627370496).toNat) e = 0 := by
          obtain ⟨J, hJ⟩ : ∃ J : Nat, e = -(J : Int) := ⟨(-e).toNat, by omega⟩
          rw [hJ, cut_down]
          exact Nat.div_eq_of_lt (Nat.lt_of_lt_of_le (show _ < 2 ^ 53 by omega) (Nat.pow_le_pow_right (by decide) (by omega)))
        rw [hz] at hp
        obtain rfl : r = 0 := by rw [hp]; cases ng <;> rfl
        have t3 : decide (e < -52) = true := by simpa using c3
        clear hp
        go_wp2
        go_ret
        exact ⟨rfl, rfl⟩
      · have t3 : decide (e < -52) = false := by simpa using c3
        obtain ⟨D, hD⟩ : ∃ D : Nat, b % 4503599627370496 + 4503599627370496 = D := ⟨(b % 4503599627370496 + 4503599627370496).toNat, by omega⟩
        have hD1 : D < 9007199254740992 := by omega
        rw [show 4503599627370496 + (b % 4503599627370496).toNat = D by omega] at hp
        go_upto_region 13 with fail
        try rw [hD]
        by_cases c4 : 0 ≤ e
        · obtain ⟨n, rfl⟩ : ∃ n : Nat, e = n := ⟨e.toNat, by omega⟩
          rw [cut_up] at hp
          have hn : n ≤ 10 := by omega
          go_loop [4, 6] (fun a m => ∃ k : Nat, k ≤ n ∧ a = .int .i64 ((n : Int) - k) ∧ m = .int .i64 ((D * 2 ^ k : Nat) : Int)) (fun a _ => (intOf a).toNat)
          case atStart => exact ⟨0, by omega, by simp, by simp⟩
          case round =>
            obtain ⟨k, hk, rfl, rfl⟩ := hrel
            by_cases hlt : k < n
            · have g1 : decide (0 < (n : Int) - k) = true := by simp; omega
              have g2 := pow_small hD1 (show k + 1 ≤ 10 by omega)
              rw [Nat.pow_succ, ← Nat.mul_assoc] at g2
              generalize hm : D * 2 ^ k = m at *
              go_wp2
              go_round
              case rel => exact ⟨k + 1, by omega, by go_num, by rw [Nat.pow_succ, ← Nat.mul_assoc, hm]; go_num⟩
              case measure => simp [intOf]; omega
            · obtain rfl : k = n := by omega
              have g1 : decide (0 < (k : Int) - k) = false := by simp
              have g2 := pow_small hD1 hn
              generalize D * 2 ^ k = m at *
              simp only [Int.sub_self] at g1 ⊢
              go_wp2
              go_loop [4, 6] (fun a m' => a = .int .i64 0 ∧ m' = .int .i64 (m : Int)) (fun _ _ => 0)
              case atStart => exact ⟨rfl, rfl⟩
              case round =>
                obtain ⟨rfl, rfl⟩ := hrel
                cases ng
                all_goals
                  simp only [Bool.false_eq_true, if_true, if_false] at hp
                  subst hp
                  go_wp2
                  go_ret
                  exact ⟨rfl, rfl⟩
        · obtain ⟨n, rfl⟩ : ∃ n : Nat, e = -(n : Int) := ⟨(-e).toNat, by omega⟩
          rw [cut_down] at hp
          have hn : n ≤ 52 := by omega
          have hn0 : 0 < n := by omega
          go_loop [4, 6] (fun a m' => a = .int .i64 (-(n : Int)) ∧ m' = .int .i64 (D : Int)) (fun _ _ => 0)
          case atStart => exact ⟨rfl, rfl⟩
          case round =>
            obtain ⟨rfl, rfl⟩ := hrel
            have g1 : decide (0 < -(n : Int)) = false := decide_eq_false (by omega)
            go_wp2
            go_loop [4, 6] (fun a m => ∃ k : Nat, k ≤ n ∧ a = .int .i64 (-(n : Int) + k) ∧ m = .int .i64 ((D / 2 ^ k : Nat) : Int)) (fun a _ => (-(intOf a)).toNat)
            case atStart => exact ⟨0, by omega, by simp, by simp⟩
            case round =>
              obtain ⟨k, hk, rfl, rfl⟩ := hrel
              have hm2 : D / 2 ^ k ≤ D := Nat.div_le_self _ _
              by_cases hlt : k < n
              · have g1 : decide (-(n : Int) + k < 0) = true := by simp; omega
                have hs : D / 2 ^ (k + 1) = D / 2 ^ k / 2 := by rw [Nat.pow_succ, Nat.div_div_eq_div_mul]
                generalize hm : D / 2 ^ k = m at *
                go_wp2
                go_round
                case rel => exact ⟨k + 1, by omega, by go_num, by rw [hs]; go_num⟩
                case measure => simp [intOf]; omega
              · obtain rfl : k = n := by omega
                have g1 : decide (-(k : Int) + k < 0) = false := decide_eq_false (by omega)
                generalize D / 2 ^ k = m at *
                cases ng
                all_goals
                  simp only [Bool.false_eq_true, if_true, if_false] at hp
                  subst hp
                  go_wp2
                  go_ret
                  exact ⟨rfl, rfl⟩
end Go.Proofs.Ytefbogpobejoeaa
