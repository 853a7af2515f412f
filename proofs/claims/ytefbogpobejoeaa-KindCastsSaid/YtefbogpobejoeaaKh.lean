/- Layer 5 of the heap, kinds, fifth part: the whole of a float64, and numbers as float64. -/
import Derived.Test.YtefbogpobejoeaaKg
import Derived.Test.YtefbogpobejoeaaFl
import Derived.Laws.Externs
import Derived.Deep.DeepCutAuto
set_option linter.unusedSimpArgs false
set_option linter.unusedVariables false
namespace Go.Proofs.Ytefbogpobejoeaa
open Go.RowKit

theorem frombits_run (b : Int) (w : World) : (callFunc 37 #[.int .u64 b]).run Try.prog w = .ok (.value (.float .f64 b.toNat)) w := by
  rw [run_callFunc_extern Try.func37 (by kernel_rfl) (by kernel_rfl) (by kernel_rfl) (e := Extern.MathFloatBits.float64frombits) (by rfl)]
  rfl
theorem bits_run (b : Nat) (w : World) : (callFunc 19 #[.float .f64 b]).run Try.prog w = .ok (.value (.int .u64 b)) w := by
  rw [run_callFunc_extern Try.func19 (by kernel_rfl) (by kernel_rfl) (by kernel_rfl) (e := Extern.MathFloatBits.float64bits) (by rfl)]
  rfl
theorem archTrunc_run (B : Nat) (h : B < 18446744073709551616) (w : World) : ∃ x w', (callFunc 49 #[.float .f64 B]).run Try.prog w = .ok (.value (.float .f64 x)) w' ∧ TruncOf B x ∧ ∃ n, w' = w.drewN n := by
  obtain ⟨x, w', h1, h2, h3⟩ := trunc_run Try.prog B h w
  refine ⟨x, w', ?_, h2, h3⟩
  rw [run_callFunc_extern Try.func49 (by kernel_rfl) (by kernel_rfl) (by kernel_rfl) (e := Extern.MathFloor.toIntegral "math.archTrunc" .zero) (by rfl), h1]
  rfl
theorem Trunc_calls (B : Nat) (h : B < 18446744073709551616) (w : World) : Calls Try.prog 36 #[.float .f64 B] w fun e w' => ∃ x, e = .returned (.float .f64 x) ∧ TruncOf B x ∧ ∃ n, w' = w.drewN n := by
  obtain ⟨x, w', h1, h2, h3⟩ := archTrunc_run B h w
  go_enter Try.func36, Try.ntmps36
  go_wp2
  go_ret
  exact ⟨x, rfl, h2, h3⟩
theorem Whole_calls (b : Int) (h0 : 0 ≤ b) (h1 : b < 18446744073709551616) (w : World) :
    Calls Try.prog 17 #[.int .u64 b] w fun e w' => e = .returned (.int .i64 (wholeZ b.toNat)) ∧ Below w.heap.size w w' := by
  have hfb := frombits_run b
  have hB : b.toNat < 18446744073709551616 := by omega
  have hcv := fun (x : Nat) (v : Int) (h : floatToIntVal .f64 x .i64 = some v) (w : World) => run_convert_float_int (P := Try.prog) w 36 2 .f64 .i64 x v (by kernel_rfl) Try.underlying2 h
  go_enter Try.func17, Try.ntmps17
  go_upto_region 2 with (go_at_call 36; refine (Trunc_calls b.toNat (by omega) _).mono ?_; rintro e w1 ⟨x, rfl, hx, n, rfl⟩)
  have HB : Below w.heap.size w (w.drewN n) := below_drewN (Below.refl _ _) n
  rcases whole_ways b.toNat x hB hx with ⟨a1, e⟩ | ⟨a1, a2, e⟩ | ⟨a1, a2, a3, e⟩ | ⟨a1, a2, a3, a4⟩
  · have E := Lib.hid e
    have f1 : (FloatKind.f64.format.order x x != some Ordering.eq) = true := by rw [a1]; decide
    clear e a1 hx hcv
    go_wp2
    go_ret
    exact ⟨ret_int E.out.symm, HB⟩
  · have E := Lib.hid e
    have f1 : (FloatKind.f64.format.order x x != some Ordering.eq) = false := by rw [a1]; decide
    have f2 : (FloatKind.f64.format.order x 4890909195324358656 == some Ordering.gt || FloatKind.f64.format.order x 4890909195324358656 == some Ordering.eq) = true := by
      rcases a2 with a2 | a2
      · rw [show FloatKind.f64.format.order x 4890909195324358656 = _ from a2]; decide
      · rw [show FloatKind.f64.format.order x 4890909195324358656 = _ from a2]; decide
    clear e a1 a2 hx hcv
    go_wp2
    all_goals
      go_ret
      exact ⟨ret_int E.out.symm, HB⟩
  · have E := Lib.hid e
    have f1 : (FloatKind.f64.format.order x x != some Ordering.eq) = false := by rw [a1]; decide
    have f2 : (FloatKind.f64.format.order x 4890909195324358656 == some Ordering.gt || FloatKind.f64.format.order x 4890909195324358656 == some Ordering.eq) = false := by
      rw [show FloatKind.f64.format.order x 4890909195324358656 = _ from a2]; decide
    have f3 : (FloatKind.f64.format.order x 14114281232179134464 == some Ordering.lt) = true := by
      rw [show FloatKind.f64.format.order x 14114281232179134464 = _ from a3]; decide
    clear e a1 a2 a3 hx hcv
    go_wp2
    all_goals
      go_ret
      exact ⟨ret_int E.out.symm, HB⟩
  · have f1 : (FloatKind.f64.format.order x x != some Ordering.eq) = false := by rw [a1]; decide
    have f2 : (FloatKind.f64.format.order x 4890909195324358656 == some Ordering.gt || FloatKind.f64.format.order x 4890909195324358656 == some Ordering.eq) = false := by
      rw [show FloatKind.f64.format.order x 4890909195324358656 = _ from a2]; decide
    have f3 : (FloatKind.f64.format.order x 14114281232179134464 == some Ordering.lt) = false := by
      rcases a3 with a3 | a3 <;> rw [show FloatKind.f64.format.order x 14114281232179134464 = _ from a3] <;> decide
    have hcv' := hcv x _ a4
    clear a1 a2 a3 a4 hx hcv
    go_wp2
    go_ways
    all_goals
      go_ret
      exact ⟨rfl, HB⟩
end Go.Proofs.Ytefbogpobejoeaa
