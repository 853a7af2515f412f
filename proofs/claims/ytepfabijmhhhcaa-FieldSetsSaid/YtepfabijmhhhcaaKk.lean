/- Layer 5's reference: which fields may be, which values are right, zero values, casts. -/
import Derived.Test.YtepfabijmhhhcaaKj
set_option linter.unusedSimpArgs false
set_option linter.unusedVariables false
namespace Go.Proofs.Ytepfabijmhhhcaa
open Go.RowKit

theorem size_pos (k : Int) : 0 < sizeZ k ↔ 0 < k ∧ k < 12 := by
  unfold sizeZ
  split <;> (try split) <;> (try split) <;> (try split) <;> omega

theorem rMay_calls (s : ByteArray) (k l : Int) (w : World) : Calls Try.prog 39 #[.agg #[.string s, .int .i64 k, .int .i64 l]] w fun e w' => e = .returned (.bool (mayB k l)) ∧ Below w.heap.size w w' := by
  have hp := Lib.hid (size_pos k)
  go_enter Try.func39, Try.ntmps39
  go_wp2
  all_goals
    go_ret
    refine ⟨ret_bool ?_, below_new _⟩
    have := hp.out
    try simp only [beq_iff_eq, beq_eq_false_iff_ne, ne_eq] at *
    rw [Bool.eq_iff_iff]
    simp only [mayB, btw, decide_eq_true_eq, decide_eq_false_iff_not, Bool.and_eq_true, Bool.decide_and] at *
    grind
theorem rMay_is (s : ByteArray) (k l : Int) (r : Bool) (h : mayB k l = r) (w : World) : Calls Try.prog 39 #[.agg #[.string s, .int .i64 k, .int .i64 l]] w fun e w' => e = .returned (.bool r) ∧ Below w.heap.size w w' := h ▸ rMay_calls s k l w

theorem rLong_calls (s : ByteArray) (k l : Int) (w : World) : Calls Try.prog 29 #[.agg #[.string s, .int .i64 k, .int .i64 l]] w fun e w' => e = .returned (.int .i64 (longZ k l)) ∧ Below w.heap.size w w' := by
  have HB := Below.refl w.heap.size w
  obtain ⟨r, hr⟩ : ∃ r, mayB k l = r := ⟨_, rfl⟩
  have H := Lib.hid hr
  clear hr
  cases r
  · go_enter Try.func29, Try.ntmps29
    go_wp2_with (first | (go_at_call 39; refine (rMay_is _ _ _ _ H.out _).mono ?_; rintro e w1 ⟨rfl, hb⟩; obtain ⟨hc, hf⟩ := bcell hb; have z0 : w.heap.size < w1.heap.size := (by have hz_ := hb.size; (try simp at hz_); omega); have n_ : Below w.heap.size w _ := below_seq (by repeat (first | exact HB | refine Below.setCell ?_ (by dsimp only; omega) _ | refine Below.alloc ?_ (by have hs_ := HB.size; first | (simp; done) | (simp; omega) | omega) _ | apply Below.drew)) hb; clear HB; have HB := n_; clear n_))
    go_ret
    exact ⟨ret_int (by rw [longZ, H.out]; rfl), HB⟩
  · have hkk : k = 12 ∨ ¬ k = 12 := by omega
    rcases hkk with rfl | hk
    · go_enter Try.func29, Try.ntmps29
      go_wp2_with (first | (go_at_call 48; refine (rSize_calls _ _).mono ?_; rintro e w' ⟨rfl, rfl⟩) | (go_at_call 39; refine (rMay_is _ _ _ _ H.out _).mono ?_; rintro e w1 ⟨rfl, hb⟩; obtain ⟨hc, hf⟩ := bcell hb; have z0 : w.heap.size < w1.heap.size := (by have hz_ := hb.size; (try simp at hz_); omega); have n_ : Below w.heap.size w _ := below_seq (by repeat (first | exact HB | refine Below.setCell ?_ (by dsimp only; omega) _ | refine Below.alloc ?_ (by have hs_ := HB.size; first | (simp; done) | (simp; omega) | omega) _ | apply Below.drew)) hb; clear HB; have HB := n_; clear n_))
      go_ret
      exact ⟨ret_int (by rw [longZ, H.out]; rfl), HB⟩
    · have hk' : (k == 12) = false := by simpa using hk
      go_enter Try.func29, Try.ntmps29
      go_wp2_with (first | (go_at_call 48; refine (rSize_calls _ _).mono ?_; rintro e w' ⟨rfl, rfl⟩) | (go_at_call 39; refine (rMay_is _ _ _ _ H.out _).mono ?_; rintro e w1 ⟨rfl, hb⟩; obtain ⟨hc, hf⟩ := bcell hb; have z0 : w.heap.size < w1.heap.size := (by have hz_ := hb.size; (try simp at hz_); omega); have n_ : Below w.heap.size w _ := below_seq (by repeat (first | exact HB | refine Below.setCell ?_ (by dsimp only; omega) _ | refine Below.alloc ?_ (by have hs_ := HB.size; first | (simp; done) | (simp; omega) | omega) _ | apply Below.drew)) hb; clear HB; have HB := n_; clear n_))
      go_ret
      exact ⟨ret_int (by rw [longZ, H.out, if_pos rfl, if_neg hk]), HB⟩
theorem rLong_is (s : ByteArray) (k l : Int) (r : Int) (h : longZ k l = r) (w : World) : Calls Try.prog 29 #[.agg #[.string s, .int .i64 k, .int .i64 l]] w fun e w' => e = .returned (.int .i64 r) ∧ Below w.heap.size w w' := h ▸ rLong_calls s k l w
theorem rFits_is (n width : Int) (s : Bool) (h0 : 0 ≤ n) (h1 : n < 18446744073709551616) (r : Bool) (h : fitsB n width s = r) (w : World) : Calls Try.prog 68 #[.int .u64 n, .int .i64 width, .bool s] w fun e w' => e = .returned (.bool r) ∧ w = w' := h ▸ rFits_calls n width s h0 h1 w

theorem rRight_calls5 (vk bits : Int) (tx s : ByteArray) (k l : Int) (h0 : 0 ≤ bits) (h1 : bits < 18446744073709551616) (w : World) :
    Calls Try.prog 60 #[.agg #[.int .i64 vk, .int .u64 bits, .string tx], .agg #[.string s, .int .i64 k, .int .i64 l]] w fun e w' => e = .returned (.bool (rightB vk bits tx k l)) ∧ Below w.heap.size w w' := by
  have HB := below_new (w := w) (.cells #[.int .i64 vk, .int .u64 bits, .string tx] 37)
  obtain ⟨r, hr⟩ : ∃ r, mayB k l = r := ⟨_, rfl⟩
  have H := Lib.hid hr
  clear hr
  cases r
  · go_enter Try.func60, Try.ntmps60
    go_wp2_with (first | (go_at_call 39; refine (rMay_is _ _ _ _ H.out _).mono ?_; rintro e w1 ⟨rfl, hb⟩; obtain ⟨hc, hf⟩ := bcell hb; obtain ⟨z0, z1⟩ : w.heap.size < w1.heap.size ∧ w.heap.size + 1 < w1.heap.size := (by have hz_ := hb.size; (try simp at hz_); omega); have n_ : Below w.heap.size w _ := below_seq (by repeat (first | exact HB | refine Below.setCell ?_ (by dsimp only; omega) _ | refine Below.alloc ?_ (by have hs_ := HB.size; first | (simp; done) | (simp; omega) | omega) _ | apply Below.drew)) hb; clear HB; have HB := n_; clear n_))
    go_ret
    exact ⟨ret_bool (by simp [rightB, H.out]), HB⟩
  · obtain ⟨rk, hrk⟩ : ∃ b, decide (9 < k) = b := ⟨_, rfl⟩
    have hk9 : (rk = true ↔ 9 < k) := by rw [← hrk]; simp
    by_cases hv : vk = k
    · subst hv
      by_cases hk : vk = 12
      · subst hk
        clear hrk hk9
        go_enter Try.func60, Try.ntmps60
        go_wp2_with (first | (go_at_call 39; refine (rMay_is _ _ _ _ H.out _).mono ?_; rintro e w1 ⟨rfl, hb⟩; obtain ⟨hc, hf⟩ := bcell hb; obtain ⟨z0, z1⟩ : w.heap.size < w1.heap.size ∧ w.heap.size + 1 < w1.heap.size := (by have hz_ := hb.size; (try simp at hz_); omega); have n_ : Below w.heap.size w _ := below_seq (by repeat (first | exact HB | refine Below.setCell ?_ (by dsimp only; omega) _ | refine Below.alloc ?_ (by have hs_ := HB.size; first | (simp; done) | (simp; omega) | omega) _ | apply Below.drew)) hb; clear HB; have HB := n_; clear n_))
        all_goals
          go_ret
          refine ⟨ret_bool ?_, HB⟩
          rw [rightB, H.out]
          simp [fitB, *]
          try grind
      · have e12 : (vk == 12) = false := by simpa using hk
        by_cases ht : tx.toList = []
        · have ht1 : (!tx.toList.isEmpty) = false := by simp [ht]
          have hsz : (tx.size : Int) = 0 := by
            rw [← bl_length, bl, ← ByteArray.toList_eq, ht]; rfl
          have HZ := Lib.hid hsz
          clear hsz ht
          by_cases hk9' : vk = 9
          · subst hk9'
            clear hrk hk9
            go_enter Try.func60, Try.ntmps60
            go_wp2_with (first | (go_at_call 39; refine (rMay_is _ _ _ _ H.out _).mono ?_; rintro e w1 ⟨rfl, hb⟩; obtain ⟨hc, hf⟩ := bcell hb; obtain ⟨z0, z1⟩ : w.heap.size < w1.heap.size ∧ w.heap.size + 1 < w1.heap.size := (by have hz_ := hb.size; (try simp at hz_); omega); have n_ : Below w.heap.size w _ := below_seq (by repeat (first | exact HB | refine Below.setCell ?_ (by dsimp only; omega) _ | refine Below.alloc ?_ (by have hs_ := HB.size; first | (simp; done) | (simp; omega) | omega) _ | apply Below.drew)) hb; clear HB; have HB := n_; clear n_))
            go_ret
            refine ⟨ret_bool ?_, HB⟩
            rw [rightB, H.out, HZ.out, Bool.eq_iff_iff]
            simp [fitB]
            omega
          · have e9 : (vk == 9) = false := by simpa using hk9'
            obtain ⟨q, hq⟩ : ∃ q, fitsB bits (longZ vk l) (decide (4 < vk)) = q := ⟨_, rfl⟩
            have hpos := (size_pos vk).1 (mayB_of H.out hk).2
            have hfit : fitB bits vk l = (rk || q) := by
              rw [fitB, if_neg hk, if_neg hk9']
              by_cases h9 : 9 < vk
              · have : rk = true := hk9.2 h9
                rw [this]; simp; omega
              · have h8 : rk = false := by cases hh : rk; rfl; exact absurd (hk9.1 hh) h9
                have hb : btw 5 vk 8 = decide (4 < vk) := by rw [Bool.eq_iff_iff]; simp [btw]; omega
                rw [h8, hb, hq, decide_eq_false (show ¬ vk = 10 by omega), decide_eq_false (show ¬ vk = 11 by omega)]; simp
            have HF := Lib.hid hfit
            have HQ := Lib.hid hq
            have HK := Lib.hid hk
            clear hfit hq hpos hk9 hk hk9'
            cases rk
            all_goals
              go_enter Try.func60, Try.ntmps60
              go_wp2_with (first | (go_at_call 39; refine (rMay_is _ _ _ _ H.out _).mono ?_; rintro e w1 ⟨rfl, hb⟩; obtain ⟨hc, hf⟩ := bcell hb; obtain ⟨z0, z1⟩ : w.heap.size < w1.heap.size ∧ w.heap.size + 1 < w1.heap.size := (by have hz_ := hb.size; (try simp at hz_); omega); have n_ : Below w.heap.size w _ := below_seq (by repeat (first | exact HB | refine Below.setCell ?_ (by dsimp only; omega) _ | refine Below.alloc ?_ (by have hs_ := HB.size; first | (simp; done) | (simp; omega) | omega) _ | apply Below.drew)) hb; clear HB; have HB := n_; clear n_))
              have g1 : FBox w1 (w.heap.size + 1) s vk l := ⟨by rw [hc _ _ (by simp)]; simp [go_sem], by rw [hc _ _ (by simp)]; simp [go_sem], by rw [hc _ _ (by simp)]; simp [go_sem]⟩
              have g2 : VBox w1 w.heap.size vk bits tx := ⟨by rw [hc _ _ (by simp; omega)]; simp [go_sem], by rw [hc _ _ (by simp; omega)]; simp [go_sem], by rw [hc _ _ (by simp; omega)]; simp [go_sem]⟩
              refine RW.start (fun w' => Below w.heap.size w w' ∧ FBox w' (w.heap.size + 1) s vk l ∧ VBox w' w.heap.size vk bits tx) (by kernel_rfl) (by kernel_rfl) ⟨HB.drew, g1, g2⟩ ?_
              clear g1 g2 hc hf hb HB z0 z1
              repeat (first
                | (refine' RW.val (by rfl) ?_ ?_; rotate_left; (focus (intro w' hS; obtain ⟨HB, ⟨c0, c1, c2⟩, ⟨d0, d1, d2⟩⟩ := hS; go_simp; rfl)); simp only [Act.put, List.setIfInBounds_toArray, List.set_cons_zero, List.set_cons_succ])
                | (refine RW.off (by rfl) ?_; simp only [Act.put, List.setIfInBounds_toArray, List.set_cons_zero, List.set_cons_succ])
                | (refine' RW.call (by rfl) ?_ ?_ ?_
                   rotate_left 3
                   (focus (intro w' hS; obtain ⟨HB, ⟨c0, c1, c2⟩, ⟨d0, d1, d2⟩⟩ := hS; go_simp; exact ⟨rfl, rfl⟩))
                   (focus
                     intro w' hS
                     obtain ⟨HB, ⟨c0, c1, c2⟩, ⟨d0, d1, d2⟩⟩ := hS
                     first
                       | (refine (rLong_calls _ _ _ _).mono ?_; rintro e w1 ⟨rfl, hb⟩; exact ⟨rfl, ⟨(below_seq HB hb), ⟨(cell_below (B := 0) hb c0), (cell_below (B := 0) hb c1), (cell_below (B := 0) hb c2)⟩, ⟨(cell_below (B := 0) hb d0), (cell_below (B := 0) hb d1), (cell_below (B := 0) hb d2)⟩⟩⟩)
                       | (refine (rFits_is _ _ _ h0 h1 _ HQ.out _).mono ?_; rintro e w1 ⟨rfl, rfl⟩; exact ⟨rfl, ⟨HB, ⟨c0, c1, c2⟩, ⟨d0, d1, d2⟩⟩⟩))
                   simp only [Act.put, List.setIfInBounds_toArray, List.set_cons_zero, List.set_cons_succ]))
              refine RW.done (fun w' hS => ?_)
              obtain ⟨HB, ⟨c0, c1, c2⟩, ⟨d0, d1, d2⟩⟩ := hS
              go_wp2
              go_ret
              exact ⟨ret_bool (by rw [rightB, H.out, HZ.out, HF.out, if_neg HK.out]; simp), HB⟩
        · have ht1 : (!tx.toList.isEmpty) = true := by simpa using ht
          have hsz : ¬ (tx.size : Int) = 0 := by
            intro h
            apply ht
            rw [ByteArray.toList_eq]
            exact List.eq_nil_of_length_eq_zero (by have := bl_length tx; rw [bl] at this; omega)
          have HZ := Lib.hid hsz
          clear hsz ht hrk hk9
          go_enter Try.func60, Try.ntmps60
          go_wp2_with (first | (go_at_call 39; refine (rMay_is _ _ _ _ H.out _).mono ?_; rintro e w1 ⟨rfl, hb⟩; obtain ⟨hc, hf⟩ := bcell hb; obtain ⟨z0, z1⟩ : w.heap.size < w1.heap.size ∧ w.heap.size + 1 < w1.heap.size := (by have hz_ := hb.size; (try simp at hz_); omega); have n_ : Below w.heap.size w _ := below_seq (by repeat (first | exact HB | refine Below.setCell ?_ (by dsimp only; omega) _ | refine Below.alloc ?_ (by have hs_ := HB.size; first | (simp; done) | (simp; omega) | omega) _ | apply Below.drew)) hb; clear HB; have HB := n_; clear n_))
          go_ret
          refine ⟨ret_bool ?_, HB⟩
          rw [rightB, H.out, if_neg hk, decide_eq_false HZ.out]
          simp
    · have hv' : (vk != k) = true := by simpa using hv
      clear hrk hk9
      go_enter Try.func60, Try.ntmps60
      go_wp2_with (first | (go_at_call 39; refine (rMay_is _ _ _ _ H.out _).mono ?_; rintro e w1 ⟨rfl, hb⟩; obtain ⟨hc, hf⟩ := bcell hb; obtain ⟨z0, z1⟩ : w.heap.size < w1.heap.size ∧ w.heap.size + 1 < w1.heap.size := (by have hz_ := hb.size; (try simp at hz_); omega); have n_ : Below w.heap.size w _ := below_seq (by repeat (first | exact HB | refine Below.setCell ?_ (by dsimp only; omega) _ | refine Below.alloc ?_ (by have hs_ := HB.size; first | (simp; done) | (simp; omega) | omega) _ | apply Below.drew)) hb; clear HB; have HB := n_; clear n_))
      go_ret
      refine ⟨ret_bool ?_, HB⟩
      rw [rightB, H.out]
      simp [hv]
end Go.Proofs.Ytepfabijmhhhcaa
