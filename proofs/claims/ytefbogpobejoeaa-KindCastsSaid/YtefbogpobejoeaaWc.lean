/- KindCastRight, walked: it tells true. -/
import Derived.Test.YtefbogpobejoeaaKo
set_option linter.unusedSimpArgs false
set_option linter.unusedVariables false
namespace Go.Proofs.Ytefbogpobejoeaa
open Go.RowKit

theorem fBits_lt64 (s : Bool) (m : Nat) (h : m < 18446744073709551616) : fBits s m < 18446744073709551616 := by
  refine fBits_lt _ _ ?_
  by_cases h0 : m = 0
  · subst h0; decide
  · have := (Nat.log2_lt (n := m) (k := 64) h0).2 (by omega); omega
theorem castZ_bd (bits k k2 : Int) (h0 : 0 ≤ bits) (h1 : bits < 18446744073709551616) : 0 ≤ castZ bits k k2 ∧ castZ bits k k2 < 18446744073709551616 := by
  unfold castZ
  split
  · have := fBits_lt64 false bits.toNat (by omega); omega
  · split
    · split
      · have := fBits_lt64 true (18446744073709551616 - bits).toNat (by omega); omega
      · have := fBits_lt64 false bits.toNat (by omega); omega
    · split <;> omega
theorem sizeZ_val {k : Int} (h : mayB k 0 = true) (hk : ¬ k = 12) : longZ k 0 = sizeZ k := by
  rw [longZ, if_pos h, if_neg hk]
/-- what fits a plain or signed field of some width fits one that is wider -/
theorem fits_up {n w w2 : Int} {s s2 : Bool} (h0 : 0 ≤ n) (h1 : n < 18446744073709551616) (hw2 : widthB w2 = true) (hlt : w < w2) (hs : s = true → s2 = true) (h : fitsB n w s = true) : fitsB n w2 s2 = true := by
  simp only [fitsB, Bool.and_eq_true] at h ⊢
  refine ⟨hw2, ?_⟩
  obtain ⟨hw, h⟩ := h
  have hc := width_cases hw
  have hc2 := width_cases hw2
  have key : (s2 = true ∧ signZ n w2 = n) ∨ (s2 = false ∧ n < topZ w2) := by
    cases s2
    · have : s = false := by cases s; rfl; exact absurd (hs rfl) (by simp)
      subst this
      simp at h
      refine .inr ⟨rfl, ?_⟩
      rcases hc with rfl | rfl | rfl | rfl <;> rcases hc2 with rfl | rfl | rfl | rfl <;> simp [topZ] at h ⊢ <;> omega
    · refine .inl ⟨rfl, ?_⟩
      cases s
      · simp at h
        rcases hc with rfl | rfl | rfl | rfl <;> rcases hc2 with rfl | rfl | rfl | rfl <;> simp [topZ] at h <;> first | omega | (first | rw [signZ_arith2 n h0 h1] | rw [signZ_arith4 n h0 h1] | rw [signZ_8 n h0 h1]) <;> (try split) <;> omega
      · simp at h
        rcases hc with rfl | rfl | rfl | rfl <;> rcases hc2 with rfl | rfl | rfl | rfl <;> first | omega | (first | rw [signZ_arith2 n h0 h1] | rw [signZ_arith4 n h0 h1] | rw [signZ_8 n h0 h1]) <;> (first | rw [signZ_arith1 n h0 h1] at h | rw [signZ_arith2 n h0 h1] at h | rw [signZ_arith4 n h0 h1] at h | skip) <;> (repeat' split at h) <;> (try split) <;> omega
  rcases key with ⟨rfl, h⟩ | ⟨rfl, h⟩
  · simpa using h
  · simpa using h
theorem long_width {k : Int} (h : mayB k 0 = true) (hk : ¬ k = 12) : widthB (longZ k 0) = true := by
  have := long_cases h hk
  simp [widthB]; omega
theorem bit_fits {n w : Int} {s : Bool} (h0 : 0 ≤ n) (h : n ≤ 1) (hw : widthB w = true) : fitsB n w s = true := by
  simp only [fitsB, Bool.and_eq_true]
  refine ⟨hw, ?_⟩
  have hc := width_cases hw
  have hn : n = 0 ∨ n = 1 := by omega
  cases s
  · simp
    rcases hc with rfl | rfl | rfl | rfl <;> simp [topZ] <;> omega
  · simp
    rcases hn with rfl | rfl <;> rcases hc with rfl | rfl | rfl | rfl <;> decide
theorem long_may {k l : Int} (h : ¬ longZ k l = 0) : mayB k l = true := by
  cases hm : mayB k l
  · exact absurd (by rw [longZ, hm]; rfl) h
  · rfl
theorem cast_right {vk bits : Int} {tx : ByteArray} {k l k2 l2 : Int} (h0 : 0 ≤ bits) (h1 : bits < 18446744073709551616) (hr : rightB vk bits tx k l = true) (hc : castsB k l k2 l2 = true) :
    rightB k2 (castZ bits k k2) (castT tx k2 l2) k2 l2 = true ∧ ((castT tx k2 l2).size : Int) = l2 := by
  obtain ⟨hm, rfl, ht, hf⟩ := right_may hr
  clear hr
  have hm2 : mayB k2 l2 = true := by
    unfold castsB at hc
    split at hc
    · cases hc
    · rename_i hz
      exact long_may fun e => hz (.inr e)
  by_cases hk : k2 = 12
  · subst hk
    obtain ⟨rfl, -⟩ := casts_12 hc
    have hb := mayB_12 ▸ hm2
    have hb := btw_iff.1 hb
    have hs : ((castT tx 12 l2).size : Int) = l2 := by rw [castT, if_pos rfl, strL_size, padL_length]; omega
    refine ⟨?_, hs⟩
    have e : castZ bits 12 12 = bits := by simp [castZ]
    have hf' : fitB bits 12 l2 = true := by simpa [fitB] using hf
    rw [e]
    simp only [rightB, hm2, hs, hf', if_true, decide_true, Bool.and_true, Bool.true_and]
  · have hl2 : l2 = 0 := (mayB_of hm2 hk).1
    subst hl2
    have hT : castT tx k2 0 = ⟨#[]⟩ := by rw [castT, if_neg hk]
    rw [hT]
    refine ⟨?_, rfl⟩
    have goal : fitB (castZ bits vk k2) k2 0 = true → rightB k2 (castZ bits vk k2) ⟨#[]⟩ k2 0 = true := fun h => by
      simp only [rightB, hm2, h, decide_true, Bool.and_true, Bool.true_and, if_neg hk]
      rfl
    apply goal
    have hw2 := long_width hm2 hk
    by_cases h10 : k2 = 10 ∨ k2 = 11
    · rcases h10 with rfl | rfl <;> simp [fitB]
    · have hne : ¬ (k2 = 10 ∧ btw 1 vk 4 = true) := fun h => h10 (.inl h.1)
      have hne2 : ¬ (k2 = 10 ∧ btw 5 vk 8 = true) := fun h => h10 (.inl h.1)
      by_cases h8 : k2 = 8 ∧ vk = 10
      · obtain ⟨rfl, rfl⟩ := h8
        have e : castZ bits 10 8 = wholeZ bits.toNat % 18446744073709551616 := by simp [castZ]
        rw [e, fitB, if_neg (by decide), if_neg (by decide), show longZ 8 0 = 8 by decide, show btw 5 8 8 = true by decide]
        simp [fitsB, widthB, signZ_8 (wholeZ bits.toNat % 18446744073709551616) (by omega) (by omega)]
      · have e : castZ bits vk k2 = bits := by rw [castZ, if_neg hne, if_neg hne2, if_neg h8]
        rw [e]
        by_cases hkk : vk = k2
        · subst hkk
          have : l = 0 := (mayB_of hm hk).1
          subst this
          exact hf
        · unfold castsB at hc
          rw [if_neg hkk] at hc
          split at hc
          · cases hc
          · have h12 : ¬ vk = 12 := fun h => by
              subst h
              rw [if_neg (by decide), if_neg (by decide), if_neg (by decide)] at hc
              simp at hc
            obtain ⟨rfl, -⟩ := mayB_of hm h12
            split at hc
            · rename_i h9
              subst h9
              have hb1 : bits ≤ 1 := by simpa [fitB] using hf
              rw [fitB, if_neg hk]
              split
              · simpa using hb1
              · rw [bit_fits h0 hb1 hw2]; rfl
            · rename_i h9
              have hk9 : ¬ k2 = 9 := fun h => by
                subst h
                split at hc
                · simp [btw] at hc
                · split at hc
                  · simp [btw] at hc
                  · simp at hc
              have hd10 : decide (k2 = 10) = false := by simp; omega
              split at hc
              · rename_i h14
                have hb := btw_iff.1 h14
                rw [hd10, Bool.or_false, Bool.and_eq_true, decide_eq_true_eq] at hc
                have hf' : fitsB bits (longZ vk 0) (btw 5 vk 8) = true := by
                  rw [fitB, if_neg h12, if_neg h9] at hf
                  simpa [show ¬ vk = 10 by omega, show ¬ vk = 11 by omega] using hf
                have h5 : btw 5 vk 8 = false := by rw [btw_not]; omega
                rw [fitB, if_neg hk, if_neg hk9, fits_up h0 h1 hw2 hc.2 (by rw [h5]; simp) hf']; rfl
              · split at hc
                · rename_i h58
                  rw [hd10, Bool.or_false, Bool.and_eq_true, decide_eq_true_eq] at hc
                  have hb := btw_iff.1 h58
                  have hf' : fitsB bits (longZ vk 0) (btw 5 vk 8) = true := by
                    rw [fitB, if_neg h12, if_neg h9] at hf
                    simpa [show ¬ vk = 10 by omega, show ¬ vk = 11 by omega] using hf
                  rw [fitB, if_neg hk, if_neg hk9, fits_up h0 h1 hw2 hc.2 (by intro _; exact hc.1) hf']; rfl
                · simp at hc; omega
set_option maxHeartbeats 1600000 in
theorem KindCastRight_calls (vk bits : Int) (tx s : ByteArray) (k l : Int) (s2 : ByteArray) (k2 l2 : Int) (v0 : -9223372036854775808 ≤ vk) (v1 : vk ≤ 9223372036854775807) (x0 : 0 ≤ bits) (x1 : bits < 18446744073709551616) (hs : tx.size ≤ maxLen)
    (k0 : -9223372036854775808 ≤ k) (k1 : k ≤ 9223372036854775807) (l0 : -9223372036854775808 ≤ l) (l1 : l ≤ 9223372036854775807) (hs1 : s.size ≤ maxLen)
    (k20 : -9223372036854775808 ≤ k2) (k21 : k2 ≤ 9223372036854775807) (l20 : -9223372036854775808 ≤ l2) (l21 : l2 ≤ 9223372036854775807) (hs2 : s2.size ≤ maxLen) (w : World) :
    Calls Try.prog 6 #[.agg #[.int .i64 vk, .int .u64 bits, .string tx], .agg #[.string s, .int .i64 k, .int .i64 l], .agg #[.string s2, .int .i64 k2, .int .i64 l2]] w fun e w' => e = .returned (.bool true) ∧ Below w.heap.size w w' := by
  have HB : Below w.heap.size w (((w.alloc (.cells #[.int .i64 vk, .int .u64 bits, .string tx] 24)).alloc (.cells #[.string s, .int .i64 k, .int .i64 l] 26)).alloc (.cells #[.string s2, .int .i64 k2, .int .i64 l2] 26)) := ((below_new _).alloc (by simp) _).alloc (by simp; omega) _
  clear v0 v1 k0 k1 l0 l1 hs1 k20 k21 l20 l21 hs2 hs
  by_cases hlen : 1000 < tx.size
  · have ht : decide ((1000 : Int) < (tx.size : Int)) = true := by simp; omega
    clear hlen
    go_enter Try.func6, Try.ntmps6
    go_wp2_with (first
      | (go_at_call 11; refine (alive_calls _).mono ?_; rintro e w4 ⟨rfl, hb⟩; have n_ : Below w.heap.size w _ := below_seq (by repeat (first | exact HB | refine Below.setCell ?_ (by dsimp only; omega) _ | refine Below.alloc ?_ (by have hs_ := HB.size; first | (simp; done) | (simp; omega) | omega) _ | apply Below.drew)) hb; clear HB; have HB := n_; clear n_))
    all_goals
      go_ret
      exact ⟨ret_bool rfl, HB⟩
  · have ht : decide ((1000 : Int) < (tx.size : Int)) = false := by simp; omega
    clear hlen
    obtain ⟨cv, hcv⟩ : ∃ cv, castV vk bits tx k l k2 l2 = cv := ⟨_, rfl⟩
    obtain ⟨ce, hce⟩ : ∃ ce, castE vk bits tx k l k2 l2 = ce := ⟨_, rfl⟩
    obtain ⟨rb, hrb⟩ : ∃ rb, rightB vk bits tx k l = rb := ⟨_, rfl⟩
    obtain ⟨cb, hcb⟩ : ∃ cb, castsB k l k2 l2 = cb := ⟨_, rfl⟩
    cases rb
    · obtain rfl : cv = .agg #[.int .i64 0, .int .u64 0, .string ⟨#[]⟩] := by rw [← hcv, castV, hrb]; rfl
      obtain rfl : ce = 50 := by rw [← hce, castE, hrb]; rfl
      have V := Lib.hid hcv; have E := Lib.hid hce; have R := Lib.hid hrb
      clear hcv hce hrb hcb
      go_enter Try.func6, Try.ntmps6
      go_wp2_with (first
        | (go_at_call 12; refine (Cast_calls _ _ _ _ _ _ _ _ _ x0 x1 _).mono ?_; rintro e w1 ⟨rfl, hb⟩; obtain ⟨hc, hf⟩ := bcell hb; obtain ⟨z0, z1, z2⟩ : w.heap.size < w1.heap.size ∧ w.heap.size + 1 < w1.heap.size ∧ w.heap.size + 1 + 1 < w1.heap.size := (by have hz_ := hb.size; (try simp at hz_); omega); rw [V.out, E.out]; have n_ : Below w.heap.size w _ := below_seq (by repeat (first | exact HB | refine Below.setCell ?_ (by dsimp only; omega) _ | refine Below.alloc ?_ (by have hs_ := HB.size; first | (simp; done) | (simp; omega) | omega) _ | apply Below.drew)) hb; clear HB; have HB := n_; clear n_)
        | (go_at_call 16; refine (Right_calls _ _ _ _ _ _ x0 x1 _).mono ?_; rintro e w2 ⟨rfl, hb⟩; obtain ⟨hc2, hf2⟩ := bcell hb; obtain ⟨y0, y1, y2⟩ : w.heap.size < w2.heap.size ∧ w.heap.size + 1 < w2.heap.size ∧ w.heap.size + 1 + 1 < w2.heap.size := (by have hz_ := hb.size; (try simp at hz_); omega); have y3 : w1.heap.size < w2.heap.size := (by have hz_ := hb.size; (try simp at hz_); omega); rw [R.out]; have n_ : Below w.heap.size w _ := below_seq (by repeat (first | exact HB | refine Below.setCell ?_ (by dsimp only; omega) _ | refine Below.alloc ?_ (by have hs_ := HB.size; first | (simp; done) | (simp; omega) | omega) _ | apply Below.drew)) hb; clear HB; have HB := n_; clear n_)
        | (go_at_call 11; refine (alive_calls _).mono ?_; rintro e w4 ⟨rfl, hb⟩; obtain ⟨hc4, hf4⟩ := bcell hb; obtain ⟨q0, q1, q2⟩ : w.heap.size < w4.heap.size ∧ w.heap.size + 1 < w4.heap.size ∧ w.heap.size + 1 + 1 < w4.heap.size := (by have hz_ := hb.size; (try simp at hz_); omega); have q3 : w1.heap.size < w4.heap.size := (by have hz_ := hb.size; (try simp at hz_); omega); have n_ : Below w.heap.size w _ := below_seq (by repeat (first | exact HB | refine Below.setCell ?_ (by dsimp only; omega) _ | refine Below.alloc ?_ (by have hs_ := HB.size; first | (simp; done) | (simp; omega) | omega) _ | apply Below.drew)) hb; clear HB; have HB := n_; clear n_))
      all_goals
        go_ret
        exact ⟨ret_bool rfl, HB⟩
    · cases cb
      · obtain rfl : cv = .agg #[.int .i64 0, .int .u64 0, .string ⟨#[]⟩] := by rw [← hcv, castV, hrb, hcb]; rfl
        obtain rfl : ce = 51 := by rw [← hce, castE, hrb, hcb]; rfl
        have V := Lib.hid hcv; have E := Lib.hid hce; have R := Lib.hid hrb; have C := Lib.hid hcb
        clear hcv hce hrb hcb
        go_enter Try.func6, Try.ntmps6
        go_wp2_with (first
          | (go_at_call 12; refine (Cast_calls _ _ _ _ _ _ _ _ _ x0 x1 _).mono ?_; rintro e w1 ⟨rfl, hb⟩; obtain ⟨hc, hf⟩ := bcell hb; obtain ⟨z0, z1, z2⟩ : w.heap.size < w1.heap.size ∧ w.heap.size + 1 < w1.heap.size ∧ w.heap.size + 1 + 1 < w1.heap.size := (by have hz_ := hb.size; (try simp at hz_); omega); rw [V.out, E.out]; have n_ : Below w.heap.size w _ := below_seq (by repeat (first | exact HB | refine Below.setCell ?_ (by dsimp only; omega) _ | refine Below.alloc ?_ (by have hs_ := HB.size; first | (simp; done) | (simp; omega) | omega) _ | apply Below.drew)) hb; clear HB; have HB := n_; clear n_)
          | (go_at_call 16; refine (Right_calls _ _ _ _ _ _ x0 x1 _).mono ?_; rintro e w2 ⟨rfl, hb⟩; obtain ⟨hc2, hf2⟩ := bcell hb; obtain ⟨y0, y1, y2⟩ : w.heap.size < w2.heap.size ∧ w.heap.size + 1 < w2.heap.size ∧ w.heap.size + 1 + 1 < w2.heap.size := (by have hz_ := hb.size; (try simp at hz_); omega); have y3 : w1.heap.size < w2.heap.size := (by have hz_ := hb.size; (try simp at hz_); omega); rw [R.out]; have n_ : Below w.heap.size w _ := below_seq (by repeat (first | exact HB | refine Below.setCell ?_ (by dsimp only; omega) _ | refine Below.alloc ?_ (by have hs_ := HB.size; first | (simp; done) | (simp; omega) | omega) _ | apply Below.drew)) hb; clear HB; have HB := n_; clear n_)
          | (go_at_call 14; refine (Casts_calls _ _ _ _ _ _ _).mono ?_; rintro e w3 ⟨rfl, hb⟩; obtain ⟨hc3, hf3⟩ := bcell hb; obtain ⟨u0, u1, u2⟩ : w.heap.size < w3.heap.size ∧ w.heap.size + 1 < w3.heap.size ∧ w.heap.size + 1 + 1 < w3.heap.size := (by have hz_ := hb.size; (try simp at hz_); omega); have u3 : w1.heap.size < w3.heap.size := (by have hz_ := hb.size; (try simp at hz_); omega); rw [C.out]; have n_ : Below w.heap.size w _ := below_seq (by repeat (first | exact HB | refine Below.setCell ?_ (by dsimp only; omega) _ | refine Below.alloc ?_ (by have hs_ := HB.size; first | (simp; done) | (simp; omega) | omega) _ | apply Below.drew)) hb; clear HB; have HB := n_; clear n_)
          | (go_at_call 11; refine (alive_calls _).mono ?_; rintro e w4 ⟨rfl, hb⟩; obtain ⟨hc4, hf4⟩ := bcell hb; obtain ⟨q0, q1, q2⟩ : w.heap.size < w4.heap.size ∧ w.heap.size + 1 < w4.heap.size ∧ w.heap.size + 1 + 1 < w4.heap.size := (by have hz_ := hb.size; (try simp at hz_); omega); have q3 : w1.heap.size < w4.heap.size := (by have hz_ := hb.size; (try simp at hz_); omega); have n_ : Below w.heap.size w _ := below_seq (by repeat (first | exact HB | refine Below.setCell ?_ (by dsimp only; omega) _ | refine Below.alloc ?_ (by have hs_ := HB.size; first | (simp; done) | (simp; omega) | omega) _ | apply Below.drew)) hb; clear HB; have HB := n_; clear n_))
        all_goals
          go_ret
          exact ⟨ret_bool rfl, HB⟩
      · obtain ⟨r2, hT⟩ := cast_right x0 x1 hrb hcb
        obtain ⟨c0, c1⟩ := castZ_bd bits k k2 x0 x1
        obtain ⟨cz, hcz⟩ : ∃ z, castZ bits k k2 = z := ⟨_, rfl⟩
        obtain ⟨ct, hct⟩ : ∃ z, castT tx k2 l2 = z := ⟨_, rfl⟩
        obtain rfl : cv = .agg #[.int .i64 k2, .int .u64 cz, .string ct] := by rw [← hcv, castV, hrb, hcb, if_pos ⟨rfl, rfl⟩, hcz, hct]
        obtain rfl : ce = 0 := by rw [← hce, castE, hrb, hcb]; rfl
        rw [hcz, hct] at r2
        rw [hct] at hT
        rw [hcz] at c0 c1
        have hT' : ((ct.size : Int) == l2) = true := by simpa using hT
        have V := Lib.hid hcv; have E := Lib.hid hce; have R := Lib.hid hrb; have C := Lib.hid hcb; have R2 := Lib.hid r2
        clear hcv hce hrb hcb r2 hcz hct hT
        go_enter Try.func6, Try.ntmps6
        go_wp2_with (first
          | (go_at_call 12; refine (Cast_calls _ _ _ _ _ _ _ _ _ x0 x1 _).mono ?_; rintro e w1 ⟨rfl, hb⟩; obtain ⟨hc, hf⟩ := bcell hb; obtain ⟨z0, z1, z2⟩ : w.heap.size < w1.heap.size ∧ w.heap.size + 1 < w1.heap.size ∧ w.heap.size + 1 + 1 < w1.heap.size := (by have hz_ := hb.size; (try simp at hz_); omega); rw [V.out, E.out]; have n_ : Below w.heap.size w _ := below_seq (by repeat (first | exact HB | refine Below.setCell ?_ (by dsimp only; omega) _ | refine Below.alloc ?_ (by have hs_ := HB.size; first | (simp; done) | (simp; omega) | omega) _ | apply Below.drew)) hb; clear HB; have HB := n_; clear n_)
          | (go_at_call 16; refine (Right_calls _ _ _ _ _ _ (by omega) (by omega) _).mono ?_; rintro e w2 ⟨rfl, hb⟩; obtain ⟨hc2, hf2⟩ := bcell hb; obtain ⟨y0, y1, y2⟩ : w.heap.size < w2.heap.size ∧ w.heap.size + 1 < w2.heap.size ∧ w.heap.size + 1 + 1 < w2.heap.size := (by have hz_ := hb.size; (try simp at hz_); omega); have y3 : w1.heap.size < w2.heap.size := (by have hz_ := hb.size; (try simp at hz_); omega); (first | rw [R.out] | rw [R2.out]); have n_ : Below w.heap.size w _ := below_seq (by repeat (first | exact HB | refine Below.setCell ?_ (by dsimp only; omega) _ | refine Below.alloc ?_ (by have hs_ := HB.size; first | (simp; done) | (simp; omega) | omega) _ | apply Below.drew)) hb; clear HB; have HB := n_; clear n_)
          | (go_at_call 14; refine (Casts_calls _ _ _ _ _ _ _).mono ?_; rintro e w3 ⟨rfl, hb⟩; obtain ⟨hc3, hf3⟩ := bcell hb; obtain ⟨u0, u1, u2⟩ : w.heap.size < w3.heap.size ∧ w.heap.size + 1 < w3.heap.size ∧ w.heap.size + 1 + 1 < w3.heap.size := (by have hz_ := hb.size; (try simp at hz_); omega); have u3 : w1.heap.size < w3.heap.size := (by have hz_ := hb.size; (try simp at hz_); omega); rw [C.out]; have n_ : Below w.heap.size w _ := below_seq (by repeat (first | exact HB | refine Below.setCell ?_ (by dsimp only; omega) _ | refine Below.alloc ?_ (by have hs_ := HB.size; first | (simp; done) | (simp; omega) | omega) _ | apply Below.drew)) hb; clear HB; have HB := n_; clear n_)
          | (go_at_call 11; refine (alive_calls _).mono ?_; rintro e w4 ⟨rfl, hb⟩; obtain ⟨hc4, hf4⟩ := bcell hb; obtain ⟨q0, q1, q2⟩ : w.heap.size < w4.heap.size ∧ w.heap.size + 1 < w4.heap.size ∧ w.heap.size + 1 + 1 < w4.heap.size := (by have hz_ := hb.size; (try simp at hz_); omega); have q3 : w1.heap.size < w4.heap.size := (by have hz_ := hb.size; (try simp at hz_); omega); have n_ : Below w.heap.size w _ := below_seq (by repeat (first | exact HB | refine Below.setCell ?_ (by dsimp only; omega) _ | refine Below.alloc ?_ (by have hs_ := HB.size; first | (simp; done) | (simp; omega) | omega) _ | apply Below.drew)) hb; clear HB; have HB := n_; clear n_))
        all_goals
          go_ret
          exact ⟨ret_bool rfl, HB⟩
end Go.Proofs.Ytefbogpobejoeaa
