/- KindSteps, walked: it tells true. -/
import Derived.Test.YtefbogpobejoeaaWc
import Derived.Deep.DeepCutAuto
set_option linter.unusedSimpArgs false
set_option linter.unusedVariables false
namespace Go.Proofs.Ytefbogpobejoeaa
open Go.RowKit

theorem step_same {vk bits : Int} {tx : ByteArray} {k b c : Int} (hk : k ≤ 9) (hb : b ≤ 9) (hc : c ≤ 9) : castZ bits k b = bits ∧ castZ bits b c = bits ∧ castZ bits k c = bits ∧ castT tx b 0 = ⟨#[]⟩ ∧ castT ⟨#[]⟩ c 0 = ⟨#[]⟩ ∧ castT tx c 0 = ⟨#[]⟩ := by
  refine ⟨?_, ?_, ?_, ?_, ?_, ?_⟩
  · rw [castZ, if_neg (by omega), if_neg (by omega), if_neg (by omega)]
  · rw [castZ, if_neg (by omega), if_neg (by omega), if_neg (by omega)]
  · rw [castZ, if_neg (by omega), if_neg (by omega), if_neg (by omega)]
  · rw [castT, if_neg (by omega)]
  · rw [castT, if_neg (by omega)]
  · rw [castT, if_neg (by omega)]

/-- what the law asks, told apart -/
theorem step_ways (n a b : Int) : (decide (n < 1) = true ∨ (decide (n < 1) = false ∧ decide (9 < n) = true) ∨ (decide (n < 1) = false ∧ decide (9 < n) = false ∧ decide (9 < a) = true) ∨ (decide (n < 1) = false ∧ decide (9 < n) = false ∧ decide (9 < a) = false ∧ decide (9 < b) = true))
    ∨ (decide (n < 1) = false ∧ decide (9 < n) = false ∧ decide (9 < a) = false ∧ decide (9 < b) = false) := by
  simp only [decide_eq_true_eq, decide_eq_false_iff_not]; omega
set_option maxHeartbeats 3200000 in
theorem KindSteps_calls (vk bits : Int) (tx : ByteArray) (a b n : Int) (v0 : -9223372036854775808 ≤ vk) (v1 : vk ≤ 9223372036854775807) (x0 : 0 ≤ bits) (x1 : bits < 18446744073709551616) (hs : tx.size ≤ maxLen)
    (a0 : -9223372036854775808 ≤ a) (a1 : a ≤ 9223372036854775807) (b0 : -9223372036854775808 ≤ b) (b1 : b ≤ 9223372036854775807) (n0 : -9223372036854775808 ≤ n) (n1 : n ≤ 9223372036854775807) (w : World) :
    Calls Try.prog 5 #[.agg #[.int .i64 vk, .int .u64 bits, .string tx], .agg #[.int .i64 a, .int .i64 b], .int .i64 n] w fun e w' => e = .returned (.bool true) ∧ Below w.heap.size w w' := by
  clear v0 v1 hs a0 a1 b0 b1 n0 n1
  go_enter Try.func5, Try.ntmps5
  go_upto_region 2 with fail
  rename_i K hK
  have rest : ∀ (p7 p8 p9 : Nat) (W : World) (q1 : w.heap.size + 1 < W.heap.size) (q7 : p7 < W.heap.size) (q8 : p8 < W.heap.size) (q9 : p9 < W.heap.size) (HB : Below w.heap.size w W) (h3 : VBox W w.heap.size vk bits tx) (h4a : W.cell? ⟨w.heap.size + 1, 0, none⟩ = some (.int .i64 a)) (h4b : W.cell? ⟨w.heap.size + 1, 1, none⟩ = some (.int .i64 b)) (h7 : FBox W p7 ⟨#[]⟩ n 0) (h8 : FBox W p8 ⟨#[]⟩ a 0) (h9 : FBox W p9 ⟨#[]⟩ b 0), K { tmps := #[.agg #[.int .i64 vk, .int .u64 bits, .string tx], .agg #[.int .i64 a, .int .i64 b], .int .i64 n, .pointer (some ⟨w.heap.size, 0, none⟩), .pointer (some ⟨w.heap.size + 1, 0, none⟩), undef, .bool false, .pointer (some ⟨p7, 0, none⟩), .pointer (some ⟨p8, 0, none⟩), .pointer (some ⟨p9, 0, none⟩), undef, undef, undef, undef, undef, undef, .int .i64 n, .agg #[.string ⟨#[]⟩, .int .i64 n, .int .i64 0], .pointer (some ⟨w.heap.size + 1, 0, none⟩), .int .i64 a, .agg #[.string ⟨#[]⟩, .int .i64 a, .int .i64 0], .pointer (some ⟨w.heap.size + 1, 1, none⟩), .int .i64 b, .agg #[.string ⟨#[]⟩, .int .i64 b, .int .i64 0], undef, undef, undef, undef, undef, undef, undef, undef, undef, undef, undef, undef, undef, undef, undef, undef, undef, undef, undef, undef, undef, undef, undef, undef, undef, undef, undef, undef, undef, undef, undef, undef, undef, undef, undef, undef, undef, undef, undef, undef, undef, undef, undef, undef, undef, undef, undef, undef, undef, undef, undef, undef, undef, undef, undef, undef, undef, undef, undef, undef, undef, undef, undef, undef, undef, undef, undef, undef, undef, undef, undef, undef, undef, undef, undef, undef, undef, undef, undef, undef, undef, undef, undef, undef], defers := [] } W := by
    intro p7 p8 p9 W q1 q7 q8 q9 HB ⟨c0, c1, c2⟩ c3 c4 ⟨d0, d1, d2⟩ ⟨e0, e1, e2⟩ ⟨f0, f1, f2⟩
    refine hK _ _ ?_
    clear hK K
    have q0 : w.heap.size < W.heap.size := by omega
    rcases step_ways n a b with (h1 | ⟨h1, h2⟩ | ⟨h1, h2, h3⟩ | ⟨h1, h2, h3, h4⟩) | ⟨h1, h2, h3, h4⟩
    · go_wp2_with (first
        | (go_at_call 11; refine (alive_calls _).mono ?_; rintro e w1 ⟨rfl, hb⟩; obtain ⟨hc, hf⟩ := bcell hb; obtain ⟨z0, z1, z2, z3, z4⟩ : w.heap.size < w1.heap.size ∧ w.heap.size + 1 < w1.heap.size ∧ p7 < w1.heap.size ∧ p8 < w1.heap.size ∧ p9 < w1.heap.size := (by have hz_ := hb.size; (try simp at hz_); omega); have hz5 := hb.size; (try simp at hz5); have n_ : Below w.heap.size w _ := below_seq (by repeat (first | exact HB | refine Below.setCell ?_ (by dsimp only; omega) _ | refine Below.alloc ?_ (by have hs_ := HB.size; first | (simp; done) | (simp; omega) | omega) _ | apply Below.drew)) hb; clear HB; have HB := n_; clear n_))
      go_ret
      exact ⟨ret_bool rfl, HB⟩
    · go_wp2_with (first
        | (go_at_call 11; refine (alive_calls _).mono ?_; rintro e w1 ⟨rfl, hb⟩; obtain ⟨hc, hf⟩ := bcell hb; obtain ⟨z0, z1, z2, z3, z4⟩ : w.heap.size < w1.heap.size ∧ w.heap.size + 1 < w1.heap.size ∧ p7 < w1.heap.size ∧ p8 < w1.heap.size ∧ p9 < w1.heap.size := (by have hz_ := hb.size; (try simp at hz_); omega); have hz5 := hb.size; (try simp at hz5); have n_ : Below w.heap.size w _ := below_seq (by repeat (first | exact HB | refine Below.setCell ?_ (by dsimp only; omega) _ | refine Below.alloc ?_ (by have hs_ := HB.size; first | (simp; done) | (simp; omega) | omega) _ | apply Below.drew)) hb; clear HB; have HB := n_; clear n_))
      go_ret
      exact ⟨ret_bool rfl, HB⟩
    · go_wp2_with (first
        | (go_at_call 11; refine (alive_calls _).mono ?_; rintro e w1 ⟨rfl, hb⟩; obtain ⟨hc, hf⟩ := bcell hb; obtain ⟨z0, z1, z2, z3, z4⟩ : w.heap.size < w1.heap.size ∧ w.heap.size + 1 < w1.heap.size ∧ p7 < w1.heap.size ∧ p8 < w1.heap.size ∧ p9 < w1.heap.size := (by have hz_ := hb.size; (try simp at hz_); omega); have hz5 := hb.size; (try simp at hz5); have n_ : Below w.heap.size w _ := below_seq (by repeat (first | exact HB | refine Below.setCell ?_ (by dsimp only; omega) _ | refine Below.alloc ?_ (by have hs_ := HB.size; first | (simp; done) | (simp; omega) | omega) _ | apply Below.drew)) hb; clear HB; have HB := n_; clear n_))
      go_ret
      exact ⟨ret_bool rfl, HB⟩
    · go_wp2_with (first
        | (go_at_call 11; refine (alive_calls _).mono ?_; rintro e w1 ⟨rfl, hb⟩; obtain ⟨hc, hf⟩ := bcell hb; obtain ⟨z0, z1, z2, z3, z4⟩ : w.heap.size < w1.heap.size ∧ w.heap.size + 1 < w1.heap.size ∧ p7 < w1.heap.size ∧ p8 < w1.heap.size ∧ p9 < w1.heap.size := (by have hz_ := hb.size; (try simp at hz_); omega); have hz5 := hb.size; (try simp at hz5); have n_ : Below w.heap.size w _ := below_seq (by repeat (first | exact HB | refine Below.setCell ?_ (by dsimp only; omega) _ | refine Below.alloc ?_ (by have hs_ := HB.size; first | (simp; done) | (simp; omega) | omega) _ | apply Below.drew)) hb; clear HB; have HB := n_; clear n_))
      go_ret
      exact ⟨ret_bool rfl, HB⟩
    · obtain ⟨cb1, hcb1⟩ : ∃ r, castsB n 0 a 0 = r := ⟨_, rfl⟩
      obtain ⟨cb2, hcb2⟩ : ∃ r, castsB a 0 b 0 = r := ⟨_, rfl⟩
      obtain ⟨cb3, hcb3⟩ : ∃ r, castsB n 0 b 0 = r := ⟨_, rfl⟩
      have C1 := Lib.hid hcb1; have C2 := Lib.hid hcb2; have C3 := Lib.hid hcb3
      cases cb1
      · clear hcb1 hcb2 hcb3
        go_wp2_with (first
          | (go_at_call 14; refine (Casts_calls _ _ _ _ _ _ _).mono ?_; rintro e w1 ⟨rfl, hb⟩; obtain ⟨hc, hf⟩ := bcell hb; obtain ⟨z0, z1, z2, z3, z4⟩ : w.heap.size < w1.heap.size ∧ w.heap.size + 1 < w1.heap.size ∧ p7 < w1.heap.size ∧ p8 < w1.heap.size ∧ p9 < w1.heap.size := (by have hz_ := hb.size; (try simp at hz_); omega); (first | rw [C1.out] | rw [C2.out] | rw [C3.out]); have n_ : Below w.heap.size w _ := below_seq (by repeat (first | exact HB | refine Below.setCell ?_ (by dsimp only; omega) _ | refine Below.alloc ?_ (by have hs_ := HB.size; first | (simp; done) | (simp; omega) | omega) _ | apply Below.drew)) hb; clear HB; have HB := n_; clear n_)
          | (go_at_call 11; refine (alive_calls _).mono ?_; rintro e w1 ⟨rfl, hb⟩; obtain ⟨hc, hf⟩ := bcell hb; obtain ⟨z0, z1, z2, z3, z4⟩ : w.heap.size < w1.heap.size ∧ w.heap.size + 1 < w1.heap.size ∧ p7 < w1.heap.size ∧ p8 < w1.heap.size ∧ p9 < w1.heap.size := (by have hz_ := hb.size; (try simp at hz_); omega); have hz5 := hb.size; (try simp at hz5); have n_ : Below w.heap.size w _ := below_seq (by repeat (first | exact HB | refine Below.setCell ?_ (by dsimp only; omega) _ | refine Below.alloc ?_ (by have hs_ := HB.size; first | (simp; done) | (simp; omega) | omega) _ | apply Below.drew)) hb; clear HB; have HB := n_; clear n_))
        go_ret
        exact ⟨ret_bool rfl, HB⟩
      · cases cb2
        · clear hcb1 hcb2 hcb3
          go_wp2_with (first
            | (go_at_call 14; refine (Casts_calls _ _ _ _ _ _ _).mono ?_; rintro e w1 ⟨rfl, hb⟩; obtain ⟨hc, hf⟩ := bcell hb; obtain ⟨z0, z1, z2, z3, z4⟩ : w.heap.size < w1.heap.size ∧ w.heap.size + 1 < w1.heap.size ∧ p7 < w1.heap.size ∧ p8 < w1.heap.size ∧ p9 < w1.heap.size := (by have hz_ := hb.size; (try simp at hz_); omega); (first | rw [C1.out] | rw [C2.out] | rw [C3.out]); have n_ : Below w.heap.size w _ := below_seq (by repeat (first | exact HB | refine Below.setCell ?_ (by dsimp only; omega) _ | refine Below.alloc ?_ (by have hs_ := HB.size; first | (simp; done) | (simp; omega) | omega) _ | apply Below.drew)) hb; clear HB; have HB := n_; clear n_)
            | (go_at_call 11; refine (alive_calls _).mono ?_; rintro e w1 ⟨rfl, hb⟩; obtain ⟨hc, hf⟩ := bcell hb; obtain ⟨z0, z1, z2, z3, z4⟩ : w.heap.size < w1.heap.size ∧ w.heap.size + 1 < w1.heap.size ∧ p7 < w1.heap.size ∧ p8 < w1.heap.size ∧ p9 < w1.heap.size := (by have hz_ := hb.size; (try simp at hz_); omega); have hz5 := hb.size; (try simp at hz5); have n_ : Below w.heap.size w _ := below_seq (by repeat (first | exact HB | refine Below.setCell ?_ (by dsimp only; omega) _ | refine Below.alloc ?_ (by have hs_ := HB.size; first | (simp; done) | (simp; omega) | omega) _ | apply Below.drew)) hb; clear HB; have HB := n_; clear n_))
          go_ret
          exact ⟨ret_bool rfl, HB⟩
        · cases cb3
          · clear hcb1 hcb2 hcb3
            go_wp2_with (first
              | (go_at_call 14; refine (Casts_calls _ _ _ _ _ _ _).mono ?_; rintro e w1 ⟨rfl, hb⟩; obtain ⟨hc, hf⟩ := bcell hb; obtain ⟨z0, z1, z2, z3, z4⟩ : w.heap.size < w1.heap.size ∧ w.heap.size + 1 < w1.heap.size ∧ p7 < w1.heap.size ∧ p8 < w1.heap.size ∧ p9 < w1.heap.size := (by have hz_ := hb.size; (try simp at hz_); omega); (first | rw [C1.out] | rw [C2.out] | rw [C3.out]); have n_ : Below w.heap.size w _ := below_seq (by repeat (first | exact HB | refine Below.setCell ?_ (by dsimp only; omega) _ | refine Below.alloc ?_ (by have hs_ := HB.size; first | (simp; done) | (simp; omega) | omega) _ | apply Below.drew)) hb; clear HB; have HB := n_; clear n_)
              | (go_at_call 11; refine (alive_calls _).mono ?_; rintro e w1 ⟨rfl, hb⟩; obtain ⟨hc, hf⟩ := bcell hb; obtain ⟨z0, z1, z2, z3, z4⟩ : w.heap.size < w1.heap.size ∧ w.heap.size + 1 < w1.heap.size ∧ p7 < w1.heap.size ∧ p8 < w1.heap.size ∧ p9 < w1.heap.size := (by have hz_ := hb.size; (try simp at hz_); omega); have hz5 := hb.size; (try simp at hz5); have n_ : Below w.heap.size w _ := below_seq (by repeat (first | exact HB | refine Below.setCell ?_ (by dsimp only; omega) _ | refine Below.alloc ?_ (by have hs_ := HB.size; first | (simp; done) | (simp; omega) | omega) _ | apply Below.drew)) hb; clear HB; have HB := n_; clear n_))
            go_ret
            exact ⟨ret_bool rfl, HB⟩
          · obtain ⟨rb, hrb⟩ : ∃ r, rightB vk bits tx n 0 = r := ⟨_, rfl⟩
            cases rb
            · have hV : castV vk bits tx n 0 a 0 = .agg #[.int .i64 0, .int .u64 0, .string ⟨#[]⟩] := by rw [castV, hrb]; rfl
              have hE : castE vk bits tx n 0 a 0 = 50 := by rw [castE, hrb]; rfl
              have V1 := Lib.hid hV; have E1 := Lib.hid hE
              clear hcb1 hcb2 hcb3 hrb hV hE
              go_wp2_with (first
                | (go_at_call 14; refine (Casts_calls _ _ _ _ _ _ _).mono ?_; rintro e w1 ⟨rfl, hb⟩; obtain ⟨hc, hf⟩ := bcell hb; obtain ⟨z0, z1, z2, z3, z4⟩ : w.heap.size < w1.heap.size ∧ w.heap.size + 1 < w1.heap.size ∧ p7 < w1.heap.size ∧ p8 < w1.heap.size ∧ p9 < w1.heap.size := (by have hz_ := hb.size; (try simp at hz_); omega); (first | rw [C1.out] | rw [C2.out] | rw [C3.out]); have n_ : Below w.heap.size w _ := below_seq (by repeat (first | exact HB | refine Below.setCell ?_ (by dsimp only; omega) _ | refine Below.alloc ?_ (by have hs_ := HB.size; first | (simp; done) | (simp; omega) | omega) _ | apply Below.drew)) hb; clear HB; have HB := n_; clear n_)
                | (go_at_call 12; refine (Cast_calls _ _ _ _ _ _ _ _ _ x0 x1 _).mono ?_; rintro e w2 ⟨rfl, hb⟩; rw [V1.out, E1.out]; obtain ⟨hcw2, hfw2⟩ := bcell hb; obtain ⟨w2z0, w2z1, w2z2, w2z3, w2z4⟩ : w.heap.size < w2.heap.size ∧ w.heap.size + 1 < w2.heap.size ∧ p7 < w2.heap.size ∧ p8 < w2.heap.size ∧ p9 < w2.heap.size := (by have hz_ := hb.size; (try simp at hz_); omega); have n_ : Below w.heap.size w _ := below_seq (by repeat (first | exact HB | refine Below.setCell ?_ (by dsimp only; omega) _ | refine Below.alloc ?_ (by have hs_ := HB.size; first | (simp; done) | (simp; omega) | omega) _ | apply Below.drew)) hb; clear HB; have HB := n_; clear n_)
                | (go_at_call 11; refine (alive_calls _).mono ?_; rintro e w1 ⟨rfl, hb⟩; obtain ⟨hc, hf⟩ := bcell hb; obtain ⟨z0, z1, z2, z3, z4⟩ : w.heap.size < w1.heap.size ∧ w.heap.size + 1 < w1.heap.size ∧ p7 < w1.heap.size ∧ p8 < w1.heap.size ∧ p9 < w1.heap.size := (by have hz_ := hb.size; (try simp at hz_); omega); have hz5 := hb.size; (try simp at hz5); have n_ : Below w.heap.size w _ := below_seq (by repeat (first | exact HB | refine Below.setCell ?_ (by dsimp only; omega) _ | refine Below.alloc ?_ (by have hs_ := HB.size; first | (simp; done) | (simp; omega) | omega) _ | apply Below.drew)) hb; clear HB; have HB := n_; clear n_))
              go_ret
              exact ⟨ret_bool rfl, HB⟩
            · have g9 : n ≤ 9 ∧ a ≤ 9 ∧ b ≤ 9 := by simp only [decide_eq_false_iff_not] at h2 h3 h4; omega
              obtain ⟨s1, s2, s3, s4, s5, s6⟩ := step_same (vk := vk) (bits := bits) (tx := tx) g9.1 g9.2.1 g9.2.2
              have hr2 : rightB a bits ⟨#[]⟩ a 0 = true := by
                have := (cast_right x0 x1 hrb hcb1).1
                rwa [s1, s4] at this
              have hV1 : castV vk bits tx n 0 a 0 = .agg #[.int .i64 a, .int .u64 bits, .string ⟨#[]⟩] := by rw [castV, if_pos ⟨hrb, hcb1⟩, s1, s4]
              have hE1 : castE vk bits tx n 0 a 0 = 0 := by rw [castE, if_pos hrb, if_pos hcb1]
              have hV2 : castV a bits ⟨#[]⟩ a 0 b 0 = .agg #[.int .i64 b, .int .u64 bits, .string ⟨#[]⟩] := by rw [castV, if_pos ⟨hr2, hcb2⟩, s2, s5]
              have hE2 : castE a bits ⟨#[]⟩ a 0 b 0 = 0 := by rw [castE, if_pos hr2, if_pos hcb2]
              have hV3 : castV vk bits tx n 0 b 0 = .agg #[.int .i64 b, .int .u64 bits, .string ⟨#[]⟩] := by rw [castV, if_pos ⟨hrb, hcb3⟩, s3, s6]
              have hE3 : castE vk bits tx n 0 b 0 = 0 := by rw [castE, if_pos hrb, if_pos hcb3]
              have V1 := Lib.hid hV1; have E1 := Lib.hid hE1; have V2 := Lib.hid hV2; have E2 := Lib.hid hE2; have V3 := Lib.hid hV3; have E3 := Lib.hid hE3
              clear hcb1 hcb2 hcb3 hrb hV1 hE1 hV2 hE2 hV3 hE3 hr2 s1 s2 s3 s4 s5 s6 g9
              go_wp2_with (first
                | (go_at_call 14; refine (Casts_calls _ _ _ _ _ _ _).mono ?_; rintro e w1 ⟨rfl, hb⟩; obtain ⟨hc, hf⟩ := bcell hb; obtain ⟨z0, z1, z2, z3, z4⟩ : w.heap.size < w1.heap.size ∧ w.heap.size + 1 < w1.heap.size ∧ p7 < w1.heap.size ∧ p8 < w1.heap.size ∧ p9 < w1.heap.size := (by have hz_ := hb.size; (try simp at hz_); omega); (first | rw [C1.out] | rw [C2.out] | rw [C3.out]); have n_ : Below w.heap.size w _ := below_seq (by repeat (first | exact HB | refine Below.setCell ?_ (by dsimp only; omega) _ | refine Below.alloc ?_ (by have hs_ := HB.size; first | (simp; done) | (simp; omega) | omega) _ | apply Below.drew)) hb; clear HB; have HB := n_; clear n_)
                | (go_at_call 12; refine (Cast_calls _ _ _ _ _ _ _ _ _ x0 x1 _).mono ?_; rintro e w2 ⟨rfl, hb⟩; rw [V1.out, E1.out]; obtain ⟨hcw2, hfw2⟩ := bcell hb; obtain ⟨w2z0, w2z1, w2z2, w2z3, w2z4⟩ : w.heap.size < w2.heap.size ∧ w.heap.size + 1 < w2.heap.size ∧ p7 < w2.heap.size ∧ p8 < w2.heap.size ∧ p9 < w2.heap.size := (by have hz_ := hb.size; (try simp at hz_); omega); have n_ : Below w.heap.size w _ := below_seq (by repeat (first | exact HB | refine Below.setCell ?_ (by dsimp only; omega) _ | refine Below.alloc ?_ (by have hs_ := HB.size; first | (simp; done) | (simp; omega) | omega) _ | apply Below.drew)) hb; clear HB; have HB := n_; clear n_)
                | (go_at_call 12; refine (Cast_calls _ _ _ _ _ _ _ _ _ x0 x1 _).mono ?_; rintro e w3 ⟨rfl, hb⟩; rw [V2.out, E2.out]; obtain ⟨hcw3, hfw3⟩ := bcell hb; obtain ⟨w3z0, w3z1, w3z2, w3z3, w3z4, w3z5⟩ : w.heap.size < w3.heap.size ∧ w.heap.size + 1 < w3.heap.size ∧ p7 < w3.heap.size ∧ p8 < w3.heap.size ∧ p9 < w3.heap.size ∧ w2.heap.size < w3.heap.size := (by have hz_ := hb.size; (try simp at hz_); omega); have n_ : Below w.heap.size w _ := below_seq (by repeat (first | exact HB | refine Below.setCell ?_ (by dsimp only; omega) _ | refine Below.alloc ?_ (by have hs_ := HB.size; first | (simp; done) | (simp; omega) | omega) _ | apply Below.drew)) hb; clear HB; have HB := n_; clear n_)
                | (go_at_call 12; refine (Cast_calls _ _ _ _ _ _ _ _ _ x0 x1 _).mono ?_; rintro e w4 ⟨rfl, hb⟩; rw [V3.out, E3.out]; obtain ⟨hcw4, hfw4⟩ := bcell hb; obtain ⟨w4z0, w4z1, w4z2, w4z3, w4z4, w4z5, w4z6⟩ : w.heap.size < w4.heap.size ∧ w.heap.size + 1 < w4.heap.size ∧ p7 < w4.heap.size ∧ p8 < w4.heap.size ∧ p9 < w4.heap.size ∧ w2.heap.size < w4.heap.size ∧ w3.heap.size < w4.heap.size := (by have hz_ := hb.size; (try simp at hz_); omega); have n_ : Below w.heap.size w _ := below_seq (by repeat (first | exact HB | refine Below.setCell ?_ (by dsimp only; omega) _ | refine Below.alloc ?_ (by have hs_ := HB.size; first | (simp; done) | (simp; omega) | omega) _ | apply Below.drew)) hb; clear HB; have HB := n_; clear n_)
                | (go_at_call 11; refine (alive_calls _).mono ?_; rintro e w1 ⟨rfl, hb⟩; obtain ⟨hc, hf⟩ := bcell hb; obtain ⟨z0, z1, z2, z3, z4, z5, z6, z7⟩ : w.heap.size < w1.heap.size ∧ w.heap.size + 1 < w1.heap.size ∧ p7 < w1.heap.size ∧ p8 < w1.heap.size ∧ p9 < w1.heap.size ∧ w2.heap.size < w1.heap.size ∧ w3.heap.size < w1.heap.size ∧ w4.heap.size < w1.heap.size := (by have hz_ := hb.size; (try simp at hz_); omega); have n_ : Below w.heap.size w _ := below_seq (by repeat (first | exact HB | refine Below.setCell ?_ (by dsimp only; omega) _ | refine Below.alloc ?_ (by have hs_ := HB.size; first | (simp; done) | (simp; omega) | omega) _ | apply Below.drew)) hb; clear HB; have HB := n_; clear n_))
              go_ret
              exact ⟨ret_bool rfl, HB⟩
  go_region
  all_goals
    refine rest _ _ _ _ ?_ ?_ ?_ ?_ ?_ ⟨?_, ?_, ?_⟩ ?_ ?_ ⟨?_, ?_, ?_⟩ ⟨?_, ?_, ?_⟩ ⟨?_, ?_, ?_⟩
    all_goals (first | (go_simp; done) | (simp; done) | (simp; omega) | (repeat (first | exact Below.refl _ _ | apply Below.drew | refine Below.alloc ?_ (by first | exact Nat.le_refl _ | (simp; done) | (simp; omega)) _)))
end Go.Proofs.Ytefbogpobejoeaa
