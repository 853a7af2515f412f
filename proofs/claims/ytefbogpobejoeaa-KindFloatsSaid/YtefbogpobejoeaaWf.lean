/- KindFloats, walked: it tells true. -/
import Derived.Test.YtefbogpobejoeaaKo
set_option linter.unusedSimpArgs false
set_option linter.unusedVariables false
namespace Go.Proofs.Ytefbogpobejoeaa
open Go.RowKit

set_option maxHeartbeats 800000 in
theorem KindFloats_calls (n : Int) (h0 : -9223372036854775808 ≤ n) (h1 : n ≤ 9223372036854775807) (w : World) : Calls Try.prog 7 #[.int .i64 n] w fun e w' => e = .returned (.bool true) ∧ Below w.heap.size w w' := by
  have HB := Below.refl w.heap.size w
  by_cases ha : -9007199254740992 ≤ n ∧ n ≤ 9007199254740992
  · obtain ⟨a0, a1⟩ := ha
    obtain ⟨v1, e1⟩ := castV_810 n a0 a1
    obtain ⟨v2, e2⟩ := castV_108 n a0 a1
    have hlt := floatZ_lt n a0 a1
    have hwr : IntKind.wrap .u64 n = n % 18446744073709551616 := by simp [IntKind.wrap, IntKind.signed, go_sem]
    obtain ⟨b0, b1⟩ : 0 ≤ n % 18446744073709551616 ∧ n % 18446744073709551616 < 18446744073709551616 := by omega
    generalize hnb : n % 18446744073709551616 = b at *
    generalize floatZ n = g at *
    have V1 := Lib.hid v1; have V2 := Lib.hid v2; have E1 := Lib.hid e1; have E2 := Lib.hid e2
    clear v1 v2 e1 e2 hnb
    have c1 : decide (n < -9007199254740992) = false := by simpa using a0
    have c2 : decide (9007199254740992 < n) = false := by simpa using a1
    clear a0 a1
    go_enter Try.func7, Try.ntmps7
    go_wp2_with (first
      | (go_at_call 12; refine (Cast_calls _ _ _ _ _ _ _ _ _ (by omega) (by omega) _).mono ?_; rintro e w1 ⟨rfl, hb⟩; obtain ⟨hc, hf⟩ := bcell hb; have z0 : w.heap.size < w1.heap.size := (by have hz_ := hb.size; (try simp at hz_); omega); rw [V1.out, E1.out]; have n_ : Below w.heap.size w _ := below_seq (by repeat (first | exact HB | refine Below.setCell ?_ (by dsimp only; omega) _ | refine Below.alloc ?_ (by have hs_ := HB.size; first | (simp; done) | (simp; omega) | omega) _ | apply Below.drew)) hb; clear HB; have HB := n_; clear n_)
      | (go_at_call 12; refine (Cast_calls _ _ _ _ _ _ _ _ _ (by omega) (by omega) _).mono ?_; rintro e w2 ⟨rfl, hb⟩; obtain ⟨hc2, hf2⟩ := bcell hb; obtain ⟨y0, y1⟩ : w.heap.size < w2.heap.size ∧ w1.heap.size < w2.heap.size := (by have hz_ := hb.size; (try simp at hz_); omega); rw [V2.out, E2.out]; have n_ : Below w.heap.size w _ := below_seq (by repeat (first | exact HB | refine Below.setCell ?_ (by dsimp only; omega) _ | refine Below.alloc ?_ (by have hs_ := HB.size; first | (simp; done) | (simp; omega) | omega) _ | apply Below.drew)) hb; clear HB; have HB := n_; clear n_)
      | (go_at_call 11; refine (alive_calls _).mono ?_; rintro e w3 ⟨rfl, hb⟩; obtain ⟨hc3, hf3⟩ := bcell hb; obtain ⟨x0, x1⟩ : w.heap.size < w3.heap.size ∧ w2.heap.size < w3.heap.size := (by have hz_ := hb.size; (try simp at hz_); omega); have n_ : Below w.heap.size w _ := below_seq (by repeat (first | exact HB | refine Below.setCell ?_ (by dsimp only; omega) _ | refine Below.alloc ?_ (by have hs_ := HB.size; first | (simp; done) | (simp; omega) | omega) _ | apply Below.drew)) hb; clear HB; have HB := n_; clear n_))
    go_ret
    exact ⟨ret_bool rfl, HB⟩
  · go_enter Try.func7, Try.ntmps7
    go_wp2_with (first
      | (go_at_call 11; refine (alive_calls _).mono ?_; rintro e w1 ⟨rfl, hb⟩))
    all_goals
      go_ret
      exact ⟨ret_bool rfl, hb⟩
end Go.Proofs.Ytefbogpobejoeaa
