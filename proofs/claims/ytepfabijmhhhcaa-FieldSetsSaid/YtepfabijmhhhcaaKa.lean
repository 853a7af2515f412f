/- Layer 1 of the heap, its words: what each small function of package word and of its reference answers, for every input. -/
import Derived.Test.YtepfabijmhhhcaaLb
set_option linter.unusedSimpArgs false
set_option linter.unusedVariables false
namespace Go.Proofs.Ytepfabijmhhhcaa
open Go.RowKit

/-- the bytes of a kind -/
def sizeZ (k : Int) : Int :=
  if k = 1 ∨ k = 5 ∨ k = 9 then 1 else if k = 2 ∨ k = 6 then 2 else if k = 3 ∨ k = 7 then 4 else if k = 4 ∨ k = 8 ∨ k = 10 ∨ k = 11 then 8 else 0
/-- a width of a number -/
def widthB (n : Int) : Bool := decide (n = 1 ∨ n = 2 ∨ n = 4 ∨ n = 8)
/-- the numbers of a width -/
def topZ (n : Int) : Int := if n = 1 then 256 else if n = 2 then 65536 else if n = 4 then 4294967296 else 18446744073709551616
/-- the highest bit of a width, spread -/
def signZ (n width : Int) : Int :=
  if widthB width then (if n % topZ width < topZ width / 2 then n % topZ width else n % topZ width - topZ width + 18446744073709551616) else n
def fitsB (n width : Int) (s : Bool) : Bool := widthB width && (if s then signZ n width == n else decide (n < topZ width))

def btw (a k b : Int) : Bool := decide (a ≤ k ∧ k ≤ b)
theorem btw_iff {a k b : Int} : btw a k b = true ↔ a ≤ k ∧ k ≤ b := by simp [btw]
theorem btw_not {a k b : Int} : btw a k b = false ↔ ¬ (a ≤ k ∧ k ≤ b) := by simp [btw]

theorem Size_calls (k : Int) (w : World) : Calls Try.prog 53 #[.int .i64 k] w fun e w' => e = .returned (.int .i64 (sizeZ k)) ∧ w = w' := by
  go_enter Try.func53, Try.ntmps53
  go_wp2
  all_goals
    go_ret
    exact ⟨ret_int (by simp only [beq_iff_eq, beq_eq_false_iff_ne, ne_eq] at *; unfold sizeZ; split <;> (try omega) <;> split <;> (try omega) <;> split <;> (try omega) <;> split <;> omega), rfl⟩

theorem right_calls (n : Int) (w : World) : Calls Try.prog 64 #[.int .i64 n] w fun e w' => e = .returned (.bool (widthB n)) ∧ w = w' := by
  go_enter Try.func64, Try.ntmps64
  go_wp2
  all_goals
    go_ret
    exact ⟨ret_bool (by rw [Bool.eq_iff_iff]; simp [widthB, *]; try omega), rfl⟩

theorem between_calls (k a b : Int) (w : World) : Calls Try.prog 65 #[.int .i64 k, .int .i64 a, .int .i64 b] w fun e w' => e = .returned (.bool (btw a k b)) ∧ w = w' := by
  go_enter Try.func65, Try.ntmps65
  go_wp2
  all_goals
    go_ret
    exact ⟨ret_bool (by rw [Bool.eq_iff_iff]; simp [btw]; try omega), rfl⟩

theorem signed_calls (k : Int) (w : World) : Calls Try.prog 54 #[.int .i64 k] w fun e w' => e = .returned (.bool (btw 5 k 8)) ∧ w = w' := by
  go_enter Try.func54, Try.ntmps54
  go_wp2_with (go_at_call 65; refine (between_calls _ _ _ _).mono ?_; rintro e w' ⟨rfl, rfl⟩)
  go_ret
  exact ⟨rfl, rfl⟩

theorem width_cases {n : Int} (h : widthB n = true) : n = 1 ∨ n = 2 ∨ n = 4 ∨ n = 8 := by simpa [widthB] using h

theorem signZ_arith1 (n : Int) (h0 : 0 ≤ n) (h1 : n < 18446744073709551616) : signZ n 1 = if n % 256 < 128 then n % 256 else n % 256 + 18446744073709551360 := by
  simp [signZ, widthB, topZ]; split <;> omega
theorem signZ_arith2 (n : Int) (h0 : 0 ≤ n) (h1 : n < 18446744073709551616) : signZ n 2 = if n % 65536 < 32768 then n % 65536 else n % 65536 + 18446744073709486080 := by
  simp [signZ, widthB, topZ]; split <;> omega
theorem signZ_arith4 (n : Int) (h0 : 0 ≤ n) (h1 : n < 18446744073709551616) : signZ n 4 = if n % 4294967296 < 2147483648 then n % 4294967296 else n % 4294967296 + 18446744069414584320 := by
  simp [signZ, widthB, topZ]; split <;> omega
theorem signZ_8 (n : Int) (h0 : 0 ≤ n) (h1 : n < 18446744073709551616) : signZ n 8 = n := by
  simp [signZ, widthB, topZ]; omega

theorem Sign_calls (n width : Int) (h0 : 0 ≤ n) (h1 : n < 18446744073709551616) (w : World) : Calls Try.prog 55 #[.int .u64 n, .int .i64 width] w fun e w' => e = .returned (.int .u64 (signZ n width)) ∧ w = w' := by
  by_cases hw : widthB width = true
  · rcases width_cases hw with h | h | h | h <;> subst h
    all_goals
      go_enter Try.func55, Try.ntmps55
      go_wp2_with (go_at_call 64; refine (right_calls _ _).mono ?_; rintro e w' ⟨rfl, rfl⟩)
      go_ret
      refine ⟨ret_int ?_, rfl⟩
      first | rw [signZ_arith1 n h0 h1] | rw [signZ_arith2 n h0 h1] | rw [signZ_arith4 n h0 h1] | rw [signZ_8 n h0 h1]
      simp only [IntKind.wrap_u64, IntKind.wrap_i64, wrap64]
      (try split) <;> omega
  · rw [Bool.not_eq_true] at hw
    go_enter Try.func55, Try.ntmps55
    go_wp2_with (go_at_call 64; refine (right_calls _ _).mono ?_; rintro e w' ⟨rfl, rfl⟩)
    go_ret
    exact ⟨ret_int (by simp [signZ, hw]), rfl⟩

theorem Fits_calls (n width : Int) (s : Bool) (h0 : 0 ≤ n) (h1 : n < 18446744073709551616) (w : World) : Calls Try.prog 67 #[.int .u64 n, .int .i64 width, .bool s] w fun e w' => e = .returned (.bool (fitsB n width s)) ∧ w = w' := by
  by_cases hw : widthB width = true
  · rcases width_cases hw with h | h | h | h <;> subst h <;> cases s
    all_goals
      go_enter Try.func67, Try.ntmps67
      go_wp2_with (first | (go_at_call 64; refine (right_calls _ _).mono ?_; rintro e w' ⟨rfl, rfl⟩) | (go_at_call 55; refine (Sign_calls _ _ h0 h1 _).mono ?_; rintro e w' ⟨rfl, rfl⟩))
      go_ret
      refine ⟨ret_bool ?_, rfl⟩
      rw [Bool.eq_iff_iff]
      simp [fitsB, widthB, topZ]
      try omega
  · rw [Bool.not_eq_true] at hw
    go_enter Try.func67, Try.ntmps67
    go_wp2_with (go_at_call 64; refine (right_calls _ _).mono ?_; rintro e w' ⟨rfl, rfl⟩)
    go_ret
    exact ⟨ret_bool (by simp [fitsB, hw]), rfl⟩

theorem rSize_calls (k : Int) (w : World) : Calls Try.prog 48 #[.int .i64 k] w fun e w' => e = .returned (.int .i64 (sizeZ k)) ∧ w = w' := by
  go_enter Try.func48, Try.ntmps48
  go_wp2
  all_goals
    go_ret
    refine ⟨ret_int ?_, rfl⟩
    unfold sizeZ
    try simp only [beq_iff_eq, beq_eq_false_iff_ne, ne_eq, Bool.or_eq_true, Bool.or_eq_false_iff, not_or, Bool.or_assoc, decide_eq_true_eq, decide_eq_false_iff_not] at *
    split <;> (try omega) <;> split <;> (try omega) <;> split <;> (try omega) <;> split <;> omega

theorem rRight_calls (n : Int) (w : World) : Calls Try.prog 61 #[.int .i64 n] w fun e w' => e = .returned (.bool (widthB n)) ∧ w = w' := by
  go_enter Try.func61, Try.ntmps61
  go_wp2
  all_goals
    go_ret
    exact ⟨ret_bool (by rw [Bool.eq_iff_iff]; simp [widthB, *]; try omega), rfl⟩

/-- 256 ^ k - 1 -/
def tz : Nat → Int
  | 0 => 0
  | k + 1 => tz k * 256 + 255
theorem tz_bd (k : Nat) (h : k < 8) : 0 ≤ tz k ∧ tz k ≤ 72057594037927935 := by
  match k, h with
  | 0, _ | 1, _ | 2, _ | 3, _ | 4, _ | 5, _ | 6, _ | 7, _ => decide

theorem rtop_any (n : Nat) (hn : n ≤ 8) (w : World) : Calls Try.prog 62 #[.int .i64 n] w fun e w' => e = .returned (.int .u64 (tz n)) ∧ w = w' := by
    go_enter Try.func62, Try.ntmps62
    go_wp2
    go_loop [3, 4] (fun t i => ∃ k : Nat, k ≤ n ∧ i = .int .i64 k ∧ t = .int .u64 (tz k)) (fun _ i => n - (intOf i).toNat)
    case atStart => exact ⟨0, by omega, rfl, rfl⟩
    case round =>
      obtain ⟨k, hk, rfl, rfl⟩ := hrel
      by_cases hlt : k < n
      · obtain ⟨b1, b2⟩ := tz_bd k (by omega)
        go_wp2
        go_round
        case rel => exact ⟨k + 1, by omega, by go_num, rfl⟩
        case measure => simp [intOf]; omega
      · go_wp2
        go_ret
        obtain rfl : k = n := by omega
        exact ⟨rfl, rfl⟩

theorem rtop_calls (n : Int) (hn : widthB n = true) (w : World) : Calls Try.prog 62 #[.int .i64 n] w fun e w' => e = .returned (.int .u64 (topZ n - 1)) ∧ w = w' := by
  rcases width_cases hn with h | h | h | h <;> subst h
  · exact rtop_any 1 (by omega) w
  · exact rtop_any 2 (by omega) w
  · exact rtop_any 4 (by omega) w
  · exact rtop_any 8 (by omega) w
end Go.Proofs.Ytepfabijmhhhcaa
