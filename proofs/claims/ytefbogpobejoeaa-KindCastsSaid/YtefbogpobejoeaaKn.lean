/- Layer 5's laws: the test that something is alive. -/
import Derived.Test.YtefbogpobejoeaaKm
import Derived.Deep.DeepCutAuto
set_option linter.unusedSimpArgs false
set_option linter.unusedVariables false
namespace Go.Proofs.Ytefbogpobejoeaa
open Go.RowKit

theorem Cast_is (vk bits : Int) (tx s s2 : ByteArray) (k l k2 l2 : Int) (h0 : 0 ≤ bits) (h1 : bits < 18446744073709551616) (v : Value) (q : Int) (hv : castV vk bits tx k l k2 l2 = v) (hq : castE vk bits tx k l k2 l2 = q) (w : World) :
    Calls Try.prog 12 #[.agg #[.int .i64 vk, .int .u64 bits, .string tx], .agg #[.string s, .int .i64 k, .int .i64 l], .agg #[.string s2, .int .i64 k2, .int .i64 l2]] w fun e w' => e = .returned (.tuple #[v, .int .i64 q]) ∧ Below w.heap.size w w' := by
  subst hv hq; exact Cast_calls vk bits tx s s2 k l k2 l2 h0 h1 w
theorem Whole_is (b : Int) (h0 : 0 ≤ b) (h1 : b < 18446744073709551616) (r : Int) (h : wholeZ b.toNat = r) (w : World) :
    Calls Try.prog 17 #[.int .u64 b] w fun e w' => e = .returned (.int .i64 r) ∧ Below w.heap.size w w' := h ▸ Whole_calls b h0 h1 w

theorem alive_v : castV 5 18446744073709551615 ⟨#[]⟩ 5 0 7 0 = .agg #[.int .i64 7, .int .u64 18446744073709551615, .string ⟨#[]⟩] := by
  rw [castV, if_pos ⟨by decide, by decide⟩]; rfl
theorem alive_e : castE 5 18446744073709551615 ⟨#[]⟩ 5 0 7 0 = 0 := by decide
theorem alive_r : rightB 7 18446744073709551615 ⟨#[]⟩ 7 0 = true := by decide
theorem alive_l : encL 18446744073709551615 ⟨#[]⟩ 7 0 = [255, 255, 255, 255] := by decide
theorem alive_1 : wholeZ (13837084675114480435 : Int).toNat = -2 := by decide
theorem alive_2 : wholeZ (9094988921128908188 : Int).toNat = 9223372036854775807 := by decide

set_option maxHeartbeats 800000 in
theorem alive_calls (w : World) : Calls Try.prog 11 #[] w fun e w' => e = .returned (.bool true) ∧ Below w.heap.size w w' := by
  have HB := Below.refl w.heap.size w
  obtain ⟨S, hst, hS⟩ : ∃ S, strL [255, 255, 255, 255] = S ∧ S.toList = [255, 255, 255, 255] := ⟨_, rfl, by rw [ByteArray.toList_eq]; rfl⟩
  have hS' : (S.toList == [255, 255, 255, 255]) = true := by rw [hS]; rfl
  go_enter Try.func11, Try.ntmps11
  go_upto_region 4 with (first
    | (go_at_call 12; refine (Cast_is _ _ _ _ _ _ _ _ _ (by decide) (by decide) _ _ alive_v alive_e _).mono ?_; rintro e w1 ⟨rfl, hb⟩; clear HB; have HB := hb)
    | (go_at_call 22; refine (Encode_some _ _ _ _ _ _ (by decide) (by decide) alive_r _).mono ?_; rintro e w2 ⟨x, rfl, hx, hb2⟩; obtain ⟨hc, hf⟩ := bcell hb2; have z2 : w1.heap.size < w2.heap.size := (by have hz_ := hb2.size; (try simp at hz_); omega); obtain ⟨A, c, rfl, -, hr⟩ := hx; have hcv := conv_str hr c; rw [alive_l, List.length_cons, List.length_cons, List.length_cons, List.length_cons, List.length_nil, Nat.zero_add] at hcv; rw [alive_l, List.length_cons, List.length_cons, List.length_cons, List.length_cons, List.length_nil, Nat.zero_add]; rw [hst] at hcv))
  obtain ⟨l1, l2⟩ : (13837084675114480435 : Nat) < 18446744073709551616 ∧ (9094988921128908188 : Nat) < 18446744073709551616 := by decide
  have v1 : wholeZ ((13837084675114480435 : Nat) : Int).toNat = -2 := alive_1
  have v2 : wholeZ ((9094988921128908188 : Nat) : Int).toNat = 9223372036854775807 := alive_2
  generalize 13837084675114480435 = F1 at *
  generalize 9094988921128908188 = F2 at *
  have hfb := bits_run
  clear hr hb
  have HB2 : Below w.heap.size w w2 := below_seq (HB.alloc (by have := HB.size; omega) _) hb2
  go_wp2_with (first
    | (go_at_call 17; refine (Whole_calls _ (by omega) (by omega) _).mono ?_; rintro e w3 ⟨rfl, hb3⟩; have n_ := below_seq HB2 hb3; clear HB2; have HB2 := n_; clear n_; first | rw [v1] | rw [v2]))
  go_ret
  exact ⟨ret_bool rfl, HB2⟩
end Go.Proofs.Ytefbogpobejoeaa
