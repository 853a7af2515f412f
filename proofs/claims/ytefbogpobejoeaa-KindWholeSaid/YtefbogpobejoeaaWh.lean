/- KindWhole, walked: it tells true. -/
import Derived.Test.YtefbogpobejoeaaKp
import Derived.Test.YtefbogpobejoeaaKo
set_option linter.unusedSimpArgs false
set_option linter.unusedVariables false
namespace Go.Proofs.Ytefbogpobejoeaa
open Go.RowKit

theorem floatOf_is (n : Int) (h0 : -9007199254740992 ≤ n) (h1 : n ≤ 9007199254740992) : floatOfInt .f64 n = floatZ n := by
  unfold floatZ
  split
  · exact floatOf_neg n (by assumption) (by omega)
  · exact floatOf_pos n (by omega) (by omega)
set_option maxHeartbeats 800000 in
theorem KindWhole_calls (b n : Int) (b0 : 0 ≤ b) (b1 : b < 18446744073709551616) (n0 : -9223372036854775808 ≤ n) (n1 : n ≤ 9223372036854775807) (w : World) :
    Calls Try.prog 4 #[.int .u64 b, .int .i64 n] w fun e w' => e = .returned (.bool true) ∧ Below w.heap.size w w' := by
  have HB := Below.refl w.heap.size w
  clear n0 n1
  obtain ⟨r, hr⟩ : ∃ r, wholeZ b.toNat = r := ⟨_, rfl⟩
  have HR := Lib.hid hr
  clear hr
  by_cases ha : -9007199254740992 ≤ n ∧ n ≤ 9007199254740992
  · obtain ⟨a0, a1⟩ := ha
    have hlt := floatZ_lt n a0 a1
    have hw := wholeZ_float n a0 a1
    have hf := floatOf_is n a0 a1
    generalize floatZ n = g at *
    have HW : Hid (wholeZ (g : Int).toNat = n) := Lib.hid (by rw [Int.toNat_natCast]; exact hw)
    have hfb := bits_run
    have c1 : decide (n < -9007199254740992) = false := by simpa using a0
    have c2 : decide (9007199254740992 < n) = false := by simpa using a1
    clear a0 a1 hw
    go_enter Try.func4, Try.ntmps4
    go_wp2_with (first
      | (go_at_call 17; refine (Whole_calls _ (by omega) (by omega) _).mono ?_; rintro e w1 ⟨rfl, hb⟩; (first | rw [HR.out] | rw [HW.out]); have n_ : Below w.heap.size w _ := below_seq (by repeat (first | exact HB | refine Below.setCell ?_ (by dsimp only; omega) _ | refine Below.alloc ?_ (by have hs_ := HB.size; first | (simp; done) | (simp; omega) | omega) _ | apply Below.drew)) hb; clear HB; have HB := n_; clear n_)
      | (go_at_call 18; refine (rWhole_calls _ (by omega) (by omega) _).mono ?_; rintro e w1 ⟨rfl, rfl⟩; rw [HR.out])
      | (go_at_call 11; refine (alive_calls _).mono ?_; rintro e w3 ⟨rfl, hb⟩; have n_ : Below w.heap.size w _ := below_seq (by repeat (first | exact HB | refine Below.setCell ?_ (by dsimp only; omega) _ | refine Below.alloc ?_ (by have hs_ := HB.size; first | (simp; done) | (simp; omega) | omega) _ | apply Below.drew)) hb; clear HB; have HB := n_; clear n_))
    go_ret
    exact ⟨ret_bool rfl, HB⟩
  · go_enter Try.func4, Try.ntmps4
    have c1 : decide (n < -9007199254740992) = true ∨ (decide (n < -9007199254740992) = false ∧ decide (9007199254740992 < n) = true) := by simp; omega
    rcases c1 with c1 | ⟨c1, c2⟩
    all_goals
      go_wp2_with (first
        | (go_at_call 17; refine (Whole_calls _ (by omega) (by omega) _).mono ?_; rintro e w1 ⟨rfl, hb⟩; rw [HR.out]; have n_ : Below w.heap.size w _ := below_seq (by repeat (first | exact HB | refine Below.setCell ?_ (by dsimp only; omega) _ | refine Below.alloc ?_ (by have hs_ := HB.size; first | (simp; done) | (simp; omega) | omega) _ | apply Below.drew)) hb; clear HB; have HB := n_; clear n_)
        | (go_at_call 18; refine (rWhole_calls _ (by omega) (by omega) _).mono ?_; rintro e w1 ⟨rfl, rfl⟩; rw [HR.out])
        | (go_at_call 11; refine (alive_calls _).mono ?_; rintro e w1 ⟨rfl, hb⟩; have n_ : Below w.heap.size w _ := below_seq (by repeat (first | exact HB | refine Below.setCell ?_ (by dsimp only; omega) _ | refine Below.alloc ?_ (by have hs_ := HB.size; first | (simp; done) | (simp; omega) | omega) _ | apply Below.drew)) hb; clear HB; have HB := n_; clear n_))
      go_ret
      exact ⟨ret_bool rfl, HB⟩
end Go.Proofs.Ytefbogpobejoeaa
