/- Layer 1 of the heap, its words, second part: bytes of numbers, and numbers of bytes. -/
import Derived.Test.YtepfabijmhhhcaaKa
set_option linter.unusedSimpArgs false
set_option linter.unusedVariables false
namespace Go.Proofs.Ytepfabijmhhhcaa
open Go.RowKit

theorem rtop_1 (w : World) : Calls Try.prog 62 #[.int .i64 1] w fun e w' => e = .returned (.int .u64 255) ∧ w = w' := rtop_any 1 (by omega) w
theorem rtop_2 (w : World) : Calls Try.prog 62 #[.int .i64 2] w fun e w' => e = .returned (.int .u64 65535) ∧ w = w' := rtop_any 2 (by omega) w
theorem rtop_4 (w : World) : Calls Try.prog 62 #[.int .i64 4] w fun e w' => e = .returned (.int .u64 4294967295) ∧ w = w' := rtop_any 4 (by omega) w
theorem rtop_8 (w : World) : Calls Try.prog 62 #[.int .i64 8] w fun e w' => e = .returned (.int .u64 18446744073709551615) ∧ w = w' := rtop_any 8 (by omega) w

theorem rSign_calls (n width : Int) (h0 : 0 ≤ n) (h1 : n < 18446744073709551616) (w : World) : Calls Try.prog 58 #[.int .u64 n, .int .i64 width] w fun e w' => e = .returned (.int .u64 (signZ n width)) ∧ w = w' := by
  by_cases hw : widthB width = true
  · rcases width_cases hw with h | h | h | h <;> subst h
    all_goals
      go_enter Try.func58, Try.ntmps58
      go_wp2_with (first | (go_at_call 61; refine (rRight_calls _ _).mono ?_; rintro e w' ⟨rfl, rfl⟩) | (go_at_call 62; (first | (with_reducible refine (rtop_1 _).mono ?_) | (with_reducible refine (rtop_2 _).mono ?_) | (with_reducible refine (rtop_4 _).mono ?_) | (with_reducible refine (rtop_8 _).mono ?_)); rintro e w' ⟨rfl, rfl⟩))
      all_goals
        go_ret
        refine ⟨ret_int ?_, rfl⟩
        first | rw [signZ_arith1 n h0 h1] | rw [signZ_arith2 n h0 h1] | rw [signZ_arith4 n h0 h1] | rw [signZ_8 n h0 h1]
        all_goals (try simp only [IntKind.wrap_u64])
        all_goals (first | omega | (split <;> omega))
  · rw [Bool.not_eq_true] at hw
    go_enter Try.func58, Try.ntmps58
    go_wp2_with (go_at_call 61; refine (rRight_calls _ _).mono ?_; rintro e w' ⟨rfl, rfl⟩)
    go_ret
    exact ⟨ret_int (by simp [signZ, hw]), rfl⟩

theorem rFits_calls (n width : Int) (s : Bool) (h0 : 0 ≤ n) (h1 : n < 18446744073709551616) (w : World) : Calls Try.prog 68 #[.int .u64 n, .int .i64 width, .bool s] w fun e w' => e = .returned (.bool (fitsB n width s)) ∧ w = w' := by
  by_cases hw : widthB width = true
  · rcases width_cases hw with h | h | h | h <;> subst h <;> cases s
    all_goals
      go_enter Try.func68, Try.ntmps68
      go_wp2_with (first | (go_at_call 61; refine (rRight_calls _ _).mono ?_; rintro e w' ⟨rfl, rfl⟩) | (go_at_call 58; refine (rSign_calls _ _ h0 h1 _).mono ?_; rintro e w' ⟨rfl, rfl⟩) | (go_at_call 62; (first | (with_reducible refine (rtop_1 _).mono ?_) | (with_reducible refine (rtop_2 _).mono ?_) | (with_reducible refine (rtop_4 _).mono ?_) | (with_reducible refine (rtop_8 _).mono ?_)); rintro e w' ⟨rfl, rfl⟩))
      go_ret
      refine ⟨ret_bool ?_, rfl⟩
      rw [Bool.eq_iff_iff]
      simp [fitsB, widthB, topZ]
      try omega
  · rw [Bool.not_eq_true] at hw
    go_enter Try.func68, Try.ntmps68
    go_wp2_with (go_at_call 61; refine (rRight_calls _ _).mono ?_; rintro e w' ⟨rfl, rfl⟩)
    go_ret
    exact ⟨ret_bool (by simp [fitsB, hw]), rfl⟩

/-- byte i of a number -/
def byteZ (n : Int) (i : Nat) : Int := n / 2 ^ (8 * i) % 256
/-- the lowest bytes of a number -/
def leL (n : Int) (k : Nat) : List UInt8 := (List.range k).map fun i => UInt8.ofNat (byteZ n i).toNat
theorem leL_succ (n : Int) (k : Nat) : leL n (k + 1) = leL n k ++ [UInt8.ofNat (byteZ n k).toNat] := by simp [leL, List.range_succ]
theorem leL_length (n : Int) (k : Nat) : (leL n k).length = k := by simp [leL]

theorem div_nn (n : Int) (k : Nat) (h : 0 ≤ n) : 0 ≤ n / 2 ^ (8 * k) := Int.ediv_nonneg h (Int.pow_nonneg (by decide))
theorem div_le (n : Int) (k : Nat) (h : 0 ≤ n) : n / 2 ^ (8 * k) ≤ n := Int.ediv_le_self _ h
theorem div_succ (n : Int) (k : Nat) : n / 2 ^ (8 * (k + 1)) = n / 2 ^ (8 * k) / 256 := by
  rw [Nat.mul_add, Int.pow_add, Int.ediv_ediv_of_nonneg (by exact Int.pow_nonneg (by decide))]
  rfl

theorem rPut_some (n : Int) (width : Nat) (hw : width ≤ 8) (hwb : widthB width = true) (h0 : 0 ≤ n) (h1 : n < 18446744073709551616) (hn : n ≤ tz width) (w : World) : Calls Try.prog 49 #[.int .i64 width, .int .u64 n] w fun e w' => e = .returned (.string (strL (leL n width))) ∧ Below w.heap.size w w' := by
    have hcv := conv1
    go_enter Try.func49, Try.ntmps49
    go_wp2_with (first | (go_at_call 61; refine (rRight_calls _ _).mono ?_; rintro e w' ⟨rfl, rfl⟩) | (go_at_call 62; refine (rtop_any width hw _).mono ?_; rintro e w' ⟨rfl, rfl⟩))
    go_loopw [1, 5, 6] (fun m s i wr => ∃ k : Nat, k ≤ width ∧ i = .int .i64 k ∧ s = .string (strL (leL n k)) ∧ m = .int .u64 (n / 2 ^ (8 * k)) ∧ Below w.heap.size w wr) (fun _ _ i _ => width - (intOf i).toNat)
    case atStart => exact ⟨0, by omega, rfl, rfl, by simp, Below.refl _ _⟩
    case round =>
      obtain ⟨k, hk, rfl, rfl, rfl, hB⟩ := hrel
      by_cases hlt : k < width
      · have hd := div_nn n k h0
        have hd2 := div_le n k h0
        have hz : ¬ 9223372036854775807 < (strL (leL n k)).size + (strL [UInt8.ofNat (n / 2 ^ (8 * k) % 256).toNat]).size := by simp [strL_size, leL_length]; omega
        go_wp2
        go_roundw
        case rel => exact ⟨k + 1, by omega, by go_num, by rw [strL_append, leL_succ]; rfl, by rw [div_succ], hB.alloc hB.size _⟩
        case measure => simp [intOf]; omega
      · go_wp2
        go_ret
        obtain rfl : k = width := by omega
        exact ⟨rfl, hB⟩

theorem rPut_none (n : Int) (width : Nat) (hw : width ≤ 8) (h0 : 0 ≤ n) (h1 : n < 18446744073709551616) (hn : widthB width = true → tz width < n) (w : World) : Calls Try.prog 49 #[.int .i64 width, .int .u64 n] w fun e w' => e = .returned (.string (strL [])) ∧ Below w.heap.size w w' := by
  by_cases hwb : widthB width = true
  · have hn' := hn hwb
    clear hn
    go_enter Try.func49, Try.ntmps49
    go_wp2_with (first | (go_at_call 61; refine (rRight_calls _ _).mono ?_; rintro e w' ⟨rfl, rfl⟩) | (go_at_call 62; refine (rtop_any width hw _).mono ?_; rintro e w' ⟨rfl, rfl⟩))
    go_ret
    exact ⟨rfl, Below.refl _ _⟩
  · clear hn
    rw [Bool.not_eq_true] at hwb
    go_enter Try.func49, Try.ntmps49
    go_wp2_with (first | (go_at_call 61; refine (rRight_calls _ _).mono ?_; rintro e w' ⟨rfl, rfl⟩) | (go_at_call 62; refine (rtop_any width hw _).mono ?_; rintro e w' ⟨rfl, rfl⟩))
    go_ret
    exact ⟨rfl, Below.refl _ _⟩

theorem byteZ_bd (n : Int) (k : Nat) : 0 ≤ byteZ n k ∧ byteZ n k < 256 := by unfold byteZ; omega
theorem bytesV_succ (n : Int) (k : Nat) : bytesV (leL n (k + 1)) = bytesV (leL n k) ++ [.int .u8 (byteZ n k)] := by
  have := byteZ_bd n k
  rw [leL_succ]; simp [bytesV, UInt8.toNat_ofNat']; omega

theorem Put_some (n : Int) (width : Nat) (hw : width ≤ 8) (hf : fitsB n width false = true) (h0 : 0 ≤ n) (h1 : n < 18446744073709551616) (w : World) : Calls Try.prog 59 #[.slice none 0 0, .int .i64 width, .int .u64 n] w fun e w' => ∃ v, e = .returned (.tuple #[v, .bool true]) ∧ w'.ownsRow w.heap.size 5 1 v width (bytesV (leL n width)) ∧ Below w.heap.size w w' := by
  obtain ⟨i0, hi, hz0, hz1, hz2⟩ := info_parts info5
  go_enter Try.func59, Try.ntmps59
  go_wp2_with (first | (go_at_call 67; refine (Fits_calls _ _ _ h0 h1 _).mono ?_; rintro e w' ⟨rfl, rfl⟩))
  go_loopw [0, 15] (fun v i wr => ∃ k : Nat, k ≤ width ∧ i = .int .i64 k ∧ wr.ownsRow w.heap.size 5 1 v k (bytesV (leL n k)) ∧ Below w.heap.size w wr) (fun _ i _ => width - (intOf i).toNat)
  case atStart => exact ⟨0, by omega, rfl, ⟨rfl, .inl ⟨rfl, rfl⟩⟩, Below.refl _ _⟩
  case round =>
    obtain ⟨k, hk, rfl, hown, hB⟩ := hrel
    by_cases hlt : k < width
    · go_wp2_with (at_builtin; refine wpList_append_own _ rfl _ _ 30 rfl w.heap.size 5 i0 (.int .u8 0) 1 1 Try.underlying30 hi hz0 hz1 hz2 rfl (by decide) _ _ _ rfl (hown.alloc _) ⟨wr.heap.size, 0, none⟩ 1 1 [.int .u8 (n / 2 ^ (8 * k) % 256)] rfl rfl ?c1 ?c2 ?c3 ?c4 ?c5 ?_)
      case c1 => exact news1 _ _ _
      case c2 => intro u hu; simp at hu; subst hu; rfl
      case c3 => simp only [maxLen]; omega
      case c4 => omega
      case c5 => have := hB.size; simp; omega
      intro v' w1 hown' hgrow _
      have hown' := (bytesV_succ n k).symm ▸ hown'
      have hB1 := (hB.alloc hB.size (.cells #[.int .u8 (n / 2 ^ (8 * k) % 256)] 5)).grown hgrow (by have := hB.size; simp; omega) (fun q hq => own_base hown q hq)
      clear hown hgrow
      go_wp2
      go_roundw
      case rel => exact ⟨k + 1, by omega, by go_num, hown', hB1⟩
      case measure => simp [intOf]; omega
    · go_wp2
      go_ret2
      obtain rfl : k = width := by omega
      exact ⟨_, rfl, hown, hB⟩
end Go.Proofs.Ytepfabijmhhhcaa
