/- Merged out of: Kj Kk Kl. -/
import Derived.Test.YtehcpjodkadfnaaGreatUf
/- Layer 5 of the heap, kinds, seventh part: bytes that are cast; every cast. -/
set_option linter.unusedSimpArgs false
set_option linter.unusedVariables false
set_option maxRecDepth 100000
namespace Go.Proofs.YtehcpjodkadfnaaGreat
open Go.RowKit

theorem casts_12 {k l l2 : Int} (h : castsB k l 12 l2 = true) : k = 12 ∧ mayB 12 l2 = true := by
  unfold castsB at h
  split at h
  · cases h
  · rename_i hz
    have hm : mayB 12 l2 = true := by
      by_cases hm : mayB 12 l2 = true
      · exact hm
      · exfalso; apply hz; right; simp [longZ, hm]
    refine ⟨?_, hm⟩
    simpa [btw] using h

set_option maxHeartbeats 800000 in
theorem Cast_bytes (vk bits : Int) (tx s s2 : ByteArray) (k l : Int) (n : Nat) (h0 : 0 ≤ bits) (h1 : bits < 18446744073709551616) (hr : rightB vk bits tx k l = true) (hc : castsB k l 12 n = true) (w : World) :
    Calls Tryz.prog 27 #[.agg #[.int .i64 vk, .int .u64 bits, .string tx], .agg #[.string s, .int .i64 k, .int .i64 l], .agg #[.string s2, .int .i64 12, .int .i64 n]] w fun e w' => e = .returned (.tuple #[.agg #[.int .i64 12, .int .u64 bits, .string (strL (padL (bl tx) n))], .int .i64 0]) ∧ Below w.heap.size w w' := by
  have HB : Below w.heap.size w (((w.alloc (.cells #[.int .i64 vk, .int .u64 bits, .string tx] 33)).alloc (.cells #[.string s, .int .i64 k, .int .i64 l] 29)).alloc (.cells #[.string s2, .int .i64 12, .int .i64 n] 29)) := ((below_new _).alloc (by simp) _).alloc (by simp; omega) _
  have hn : n ≤ 64 := by have := btw_iff.1 (mayB_12 ▸ (casts_12 hc).2); omega
  have HR := Lib.hid hr
  have HC := Lib.hid hc
  clear hr hc
  have hmk := make_bytes n (by omega)
  have hcy : ∀ (W : World) (o : Obj), (Builtin.copy_ #[42, 9] 3 #[.slice (some ⟨W.heap.size + 1, 0, none⟩) n n, .string tx]).run Tryz.prog ((W.alloc o).alloc (.cells (bytesV (List.replicate n 0)).toArray 5)) =
      .ok (goInt (min tx.size n)) ((W.alloc o).alloc (.cells (bytesV (padL (bl tx) n)).toArray 5)) := fun W o => by simpa using copy_new 3 tx n (W.alloc o)
  have hcv : ∀ (W : World) (o : Obj), (convert 42 9 (.slice (some ⟨W.heap.size + 1, 0, none⟩) n n)).run Tryz.prog ((W.alloc o).alloc (.cells (bytesV (padL (bl tx) n)).toArray 5)) = .ok (.string (strL (padL (bl tx) n))) ((W.alloc o).alloc (.cells (bytesV (padL (bl tx) n)).toArray 5)) := fun W o => by
    have := conv_str (rd_new (W.alloc o) (bytesV (padL (bl tx) n)) 5) n
    simpa [padL_length] using this
  go_enter Tryz.func27, Tryz.ntmps27
  go_wp2_with (first
    | (go_at_call 49; refine (Right_is _ _ _ _ _ _ h0 h1 _ HR.out _).mono ?_; rintro e w1 ⟨rfl, hb⟩; obtain ⟨hc, hf⟩ := bcell hb; obtain ⟨z0, z1, z2, z3⟩ : w.heap.size < w1.heap.size ∧ w.heap.size + 1 < w1.heap.size ∧ w.heap.size + 1 + 1 < w1.heap.size ∧ w.heap.size + 1 + 1 + 1 < w1.heap.size := (by have hz_ := hb.size; (try simp at hz_); omega); have n_ : Below w.heap.size w _ := below_seq (by repeat (first | exact HB | refine Below.setCell ?_ (by dsimp only; omega) _ | refine Below.alloc ?_ (by have hs_ := HB.size; first | (simp; done) | (simp; omega) | omega) _ | apply Below.drew)) hb; clear HB; have HB := n_; clear n_)
    | (go_at_call 50; refine (Casts_is _ _ _ _ _ _ _ HC.out _).mono ?_; rintro e w2 ⟨rfl, hb⟩; obtain ⟨hc, hf⟩ := bcell hb; obtain ⟨z0, z1, z2, z3⟩ : w.heap.size < w2.heap.size ∧ w.heap.size + 1 < w2.heap.size ∧ w.heap.size + 1 + 1 < w2.heap.size ∧ w.heap.size + 1 + 1 + 1 < w2.heap.size := (by have hz_ := hb.size; (try simp at hz_); omega); have n_ : Below w.heap.size w _ := below_seq (by repeat (first | exact HB | refine Below.setCell ?_ (by dsimp only; omega) _ | refine Below.alloc ?_ (by have hs_ := HB.size; first | (simp; done) | (simp; omega) | omega) _ | apply Below.drew)) hb; clear HB; have HB := n_; clear n_))
  refine bodyPost_ret (v := .tuple #[.agg #[.int .i64 12, .int .u64 bits, .string (strL (padL (bl tx) n))], .int .i64 0]) (by simp [results, Tryz.results27, go_sem, *]) rfl ⟨rfl, ?_⟩
  (repeat (first | exact HB | refine Below.setCell ?_ (by dsimp only; omega) _ | refine Below.alloc ?_ (by have hs_ := HB.size; first | (simp; done) | (simp; omega) | omega) _ | apply Below.drew))

def castT (tx : ByteArray) (k2 l2 : Int) : ByteArray := if k2 = 12 then strL (padL (bl tx) l2.toNat) else ⟨#[]⟩
def castV (vk bits : Int) (tx : ByteArray) (k l k2 l2 : Int) : Value := if rightB vk bits tx k l = true ∧ castsB k l k2 l2 = true then .agg #[.int .i64 k2, .int .u64 (castZ bits k k2), .string (castT tx k2 l2)] else .agg #[.int .i64 0, .int .u64 0, .string ⟨#[]⟩]
def castE (vk bits : Int) (tx : ByteArray) (k l k2 l2 : Int) : Int := if rightB vk bits tx k l = true then (if castsB k l k2 l2 = true then 0 else 51) else 50

theorem Cast_calls (vk bits : Int) (tx s s2 : ByteArray) (k l k2 l2 : Int) (h0 : 0 ≤ bits) (h1 : bits < 18446744073709551616) (w : World) :
    Calls Tryz.prog 27 #[.agg #[.int .i64 vk, .int .u64 bits, .string tx], .agg #[.string s, .int .i64 k, .int .i64 l], .agg #[.string s2, .int .i64 k2, .int .i64 l2]] w fun e w' => e = .returned (.tuple #[castV vk bits tx k l k2 l2, .int .i64 (castE vk bits tx k l k2 l2)]) ∧ Below w.heap.size w w' := by
  by_cases hr : rightB vk bits tx k l = true
  · by_cases hc : castsB k l k2 l2 = true
    · rw [castV, if_pos ⟨hr, hc⟩, castE, if_pos hr, if_pos hc]
      by_cases hk : k2 = 12
      · subst hk
        have h12 := casts_12 hc
        have hb := btw_iff.1 (mayB_12 ▸ h12.2)
        obtain ⟨n, rfl⟩ : ∃ n : Nat, l2 = n := ⟨l2.toNat, by omega⟩
        have e1 : castZ bits k 12 = bits := by simp [castZ]
        rw [castT, if_pos rfl, e1]
        exact Cast_bytes vk bits tx s s2 k l n h0 h1 hr hc w
      · rw [castT, if_neg hk]
        by_cases c1 : k2 = 10 ∧ btw 1 k 4 = true
        · obtain ⟨rfl, hp⟩ := c1
          exact Cast_plain vk bits tx s s2 k l l2 h0 h1 hr hc hp w
        · by_cases c2 : k2 = 10 ∧ btw 5 k 8 = true
          · obtain ⟨rfl, hp⟩ := c2
            exact Cast_signed vk bits tx s s2 k l l2 h0 h1 hr hc hp w
          · by_cases c3 : k2 = 8 ∧ k = 10
            · obtain ⟨rfl, rfl⟩ := c3
              exact Cast_whole vk bits tx s s2 l l2 h0 h1 hr hc w
            · rw [castZ, if_neg c1, if_neg c2, if_neg c3]
              exact Cast_same vk bits tx s s2 k l k2 l2 h0 h1 hr hc hk (fun e => ⟨by rw [← Bool.not_eq_true]; exact fun h => c1 ⟨e, h⟩, by rw [← Bool.not_eq_true]; exact fun h => c2 ⟨e, h⟩⟩) (fun e h => c3 ⟨e, h⟩) w
    · rw [castV, if_neg (fun h => hc h.2), castE, if_pos hr, if_neg hc]
      exact Cast_not vk bits tx s s2 k l k2 l2 h0 h1 hr (by simpa using hc) w
  · rw [castV, if_neg (fun h => hr h.1), castE, if_neg hr]
    exact Cast_wrong vk bits tx s s2 k l k2 l2 h0 h1 (by simpa using hr) w
end Go.Proofs.YtehcpjodkadfnaaGreat
/- Layer 5's reference: which fields may be, which values are right, zero values, casts. -/
set_option linter.unusedSimpArgs false
set_option linter.unusedVariables false
set_option maxRecDepth 100000
namespace Go.Proofs.YtehcpjodkadfnaaGreat
open Go.RowKit

theorem size_pos (k : Int) : 0 < sizeZ k ↔ 0 < k ∧ k < 12 := by
  unfold sizeZ
  split <;> (try split) <;> (try split) <;> (try split) <;> omega

theorem rMay_calls (s : ByteArray) (k l : Int) (w : World) : Calls Tryz.prog 15 #[.agg #[.string s, .int .i64 k, .int .i64 l]] w fun e w' => e = .returned (.bool (mayB k l)) ∧ Below w.heap.size w w' := by
  have hp := Lib.hid (size_pos k)
  go_enter Tryz.func15, Tryz.ntmps15
  go_wp2
  all_goals
    go_ret
    refine ⟨ret_bool ?_, below_new _⟩
    have := hp.out
    try simp only [beq_iff_eq, beq_eq_false_iff_ne, ne_eq] at *
    rw [Bool.eq_iff_iff]
    simp only [mayB, btw, decide_eq_true_eq, decide_eq_false_iff_not, Bool.and_eq_true, Bool.decide_and] at *
    grind
theorem rMay_is (s : ByteArray) (k l : Int) (r : Bool) (h : mayB k l = r) (w : World) : Calls Tryz.prog 15 #[.agg #[.string s, .int .i64 k, .int .i64 l]] w fun e w' => e = .returned (.bool r) ∧ Below w.heap.size w w' := h ▸ rMay_calls s k l w

theorem rLong_calls (s : ByteArray) (k l : Int) (w : World) : Calls Tryz.prog 20 #[.agg #[.string s, .int .i64 k, .int .i64 l]] w fun e w' => e = .returned (.int .i64 (longZ k l)) ∧ Below w.heap.size w w' := by
  have HB := Below.refl w.heap.size w
  obtain ⟨r, hr⟩ : ∃ r, mayB k l = r := ⟨_, rfl⟩
  have H := Lib.hid hr
  clear hr
  cases r
  · go_enter Tryz.func20, Tryz.ntmps20
    go_wp2_with (first | (go_at_call 15; refine (rMay_is _ _ _ _ H.out _).mono ?_; rintro e w1 ⟨rfl, hb⟩; obtain ⟨hc, hf⟩ := bcell hb; have z0 : w.heap.size < w1.heap.size := (by have hz_ := hb.size; (try simp at hz_); omega); have n_ : Below w.heap.size w _ := below_seq (by repeat (first | exact HB | refine Below.setCell ?_ (by dsimp only; omega) _ | refine Below.alloc ?_ (by have hs_ := HB.size; first | (simp; done) | (simp; omega) | omega) _ | apply Below.drew)) hb; clear HB; have HB := n_; clear n_))
    go_ret
    exact ⟨ret_int (by rw [longZ, H.out]; rfl), HB⟩
  · have hkk : k = 12 ∨ ¬ k = 12 := by omega
    rcases hkk with rfl | hk
    · go_enter Tryz.func20, Tryz.ntmps20
      go_wp2_with (first | (go_at_call 43; refine (rSize_calls _ _).mono ?_; rintro e w' ⟨rfl, rfl⟩) | (go_at_call 15; refine (rMay_is _ _ _ _ H.out _).mono ?_; rintro e w1 ⟨rfl, hb⟩; obtain ⟨hc, hf⟩ := bcell hb; have z0 : w.heap.size < w1.heap.size := (by have hz_ := hb.size; (try simp at hz_); omega); have n_ : Below w.heap.size w _ := below_seq (by repeat (first | exact HB | refine Below.setCell ?_ (by dsimp only; omega) _ | refine Below.alloc ?_ (by have hs_ := HB.size; first | (simp; done) | (simp; omega) | omega) _ | apply Below.drew)) hb; clear HB; have HB := n_; clear n_))
      go_ret
      exact ⟨ret_int (by rw [longZ, H.out]; rfl), HB⟩
    · have hk' : (k == 12) = false := by simpa using hk
      go_enter Tryz.func20, Tryz.ntmps20
      go_wp2_with (first | (go_at_call 43; refine (rSize_calls _ _).mono ?_; rintro e w' ⟨rfl, rfl⟩) | (go_at_call 15; refine (rMay_is _ _ _ _ H.out _).mono ?_; rintro e w1 ⟨rfl, hb⟩; obtain ⟨hc, hf⟩ := bcell hb; have z0 : w.heap.size < w1.heap.size := (by have hz_ := hb.size; (try simp at hz_); omega); have n_ : Below w.heap.size w _ := below_seq (by repeat (first | exact HB | refine Below.setCell ?_ (by dsimp only; omega) _ | refine Below.alloc ?_ (by have hs_ := HB.size; first | (simp; done) | (simp; omega) | omega) _ | apply Below.drew)) hb; clear HB; have HB := n_; clear n_))
      go_ret
      exact ⟨ret_int (by rw [longZ, H.out, if_pos rfl, if_neg hk]), HB⟩
theorem rLong_is (s : ByteArray) (k l : Int) (r : Int) (h : longZ k l = r) (w : World) : Calls Tryz.prog 20 #[.agg #[.string s, .int .i64 k, .int .i64 l]] w fun e w' => e = .returned (.int .i64 r) ∧ Below w.heap.size w w' := h ▸ rLong_calls s k l w
theorem rFits_is (n width : Int) (s : Bool) (h0 : 0 ≤ n) (h1 : n < 18446744073709551616) (r : Bool) (h : fitsB n width s = r) (w : World) : Calls Tryz.prog 19 #[.int .u64 n, .int .i64 width, .bool s] w fun e w' => e = .returned (.bool r) ∧ w = w' := h ▸ rFits_calls n width s h0 h1 w

theorem rRight_calls5 (vk bits : Int) (tx s : ByteArray) (k l : Int) (h0 : 0 ≤ bits) (h1 : bits < 18446744073709551616) (w : World) :
    Calls Tryz.prog 7 #[.agg #[.int .i64 vk, .int .u64 bits, .string tx], .agg #[.string s, .int .i64 k, .int .i64 l]] w fun e w' => e = .returned (.bool (rightB vk bits tx k l)) ∧ Below w.heap.size w w' := by
  have HB := below_new (w := w) (.cells #[.int .i64 vk, .int .u64 bits, .string tx] 33)
  obtain ⟨r, hr⟩ : ∃ r, mayB k l = r := ⟨_, rfl⟩
  have H := Lib.hid hr
  clear hr
  cases r
  · go_enter Tryz.func7, Tryz.ntmps7
    go_wp2_with (first | (go_at_call 15; refine (rMay_is _ _ _ _ H.out _).mono ?_; rintro e w1 ⟨rfl, hb⟩; obtain ⟨hc, hf⟩ := bcell hb; obtain ⟨z0, z1⟩ : w.heap.size < w1.heap.size ∧ w.heap.size + 1 < w1.heap.size := (by have hz_ := hb.size; (try simp at hz_); omega); have n_ : Below w.heap.size w _ := below_seq (by repeat (first | exact HB | refine Below.setCell ?_ (by dsimp only; omega) _ | refine Below.alloc ?_ (by have hs_ := HB.size; first | (simp; done) | (simp; omega) | omega) _ | apply Below.drew)) hb; clear HB; have HB := n_; clear n_))
    go_ret
    exact ⟨ret_bool (by simp [rightB, H.out]), HB⟩
  · obtain ⟨rk, hrk⟩ : ∃ b, decide (9 < k) = b := ⟨_, rfl⟩
    have hk9 : (rk = true ↔ 9 < k) := by rw [← hrk]; simp
    by_cases hv : vk = k
    · subst hv
      by_cases hk : vk = 12
      · subst hk
        clear hrk hk9
        go_enter Tryz.func7, Tryz.ntmps7
        go_wp2_with (first | (go_at_call 15; refine (rMay_is _ _ _ _ H.out _).mono ?_; rintro e w1 ⟨rfl, hb⟩; obtain ⟨hc, hf⟩ := bcell hb; obtain ⟨z0, z1⟩ : w.heap.size < w1.heap.size ∧ w.heap.size + 1 < w1.heap.size := (by have hz_ := hb.size; (try simp at hz_); omega); have n_ : Below w.heap.size w _ := below_seq (by repeat (first | exact HB | refine Below.setCell ?_ (by dsimp only; omega) _ | refine Below.alloc ?_ (by have hs_ := HB.size; first | (simp; done) | (simp; omega) | omega) _ | apply Below.drew)) hb; clear HB; have HB := n_; clear n_))
        all_goals
          go_ret
          refine ⟨ret_bool ?_, HB⟩
          rw [rightB, H.out]
          simp [fitB, *]
          try grind
      · have e12 : (vk == 12) = false := by simpa using hk
        by_cases ht : tx.toList = []
        · have ht1 : (!tx.toList.isEmpty) = false := by simp [ht]
          have hsz : (tx.size : Int) = 0 := by
            rw [← bl_length, bl, ← ByteArray.toList_eq, ht]; rfl
          have HZ := Lib.hid hsz
          clear hsz ht
          by_cases hk9' : vk = 9
          · subst hk9'
            clear hrk hk9
            go_enter Tryz.func7, Tryz.ntmps7
            go_wp2_with (first | (go_at_call 15; refine (rMay_is _ _ _ _ H.out _).mono ?_; rintro e w1 ⟨rfl, hb⟩; obtain ⟨hc, hf⟩ := bcell hb; obtain ⟨z0, z1⟩ : w.heap.size < w1.heap.size ∧ w.heap.size + 1 < w1.heap.size := (by have hz_ := hb.size; (try simp at hz_); omega); have n_ : Below w.heap.size w _ := below_seq (by repeat (first | exact HB | refine Below.setCell ?_ (by dsimp only; omega) _ | refine Below.alloc ?_ (by have hs_ := HB.size; first | (simp; done) | (simp; omega) | omega) _ | apply Below.drew)) hb; clear HB; have HB := n_; clear n_))
            go_ret
            refine ⟨ret_bool ?_, HB⟩
            rw [rightB, H.out, HZ.out, Bool.eq_iff_iff]
            simp [fitB]
            omega
          · have e9 : (vk == 9) = false := by simpa using hk9'
            obtain ⟨q, hq⟩ : ∃ q, fitsB bits (longZ vk l) (decide (4 < vk)) = q := ⟨_, rfl⟩
            have hpos := (size_pos vk).1 (mayB_of H.out hk).2
            have hfit : fitB bits vk l = (rk || q) := by
              rw [fitB, if_neg hk, if_neg hk9']
              by_cases h9 : 9 < vk
              · have : rk = true := hk9.2 h9
                rw [this]; simp; omega
              · have h8 : rk = false := by cases hh : rk; rfl; exact absurd (hk9.1 hh) h9
                have hb : btw 5 vk 8 = decide (4 < vk) := by rw [Bool.eq_iff_iff]; simp [btw]; omega
                rw [h8, hb, hq, decide_eq_false (show ¬ vk = 10 by omega), decide_eq_false (show ¬ vk = 11 by omega)]; simp
            have HF := Lib.hid hfit
            have HQ := Lib.hid hq
            have HK := Lib.hid hk
            clear hfit hq hpos hk9 hk hk9'
            cases rk
            all_goals
              go_enter Tryz.func7, Tryz.ntmps7
              go_wp2_with (first | (go_at_call 15; refine (rMay_is _ _ _ _ H.out _).mono ?_; rintro e w1 ⟨rfl, hb⟩; obtain ⟨hc, hf⟩ := bcell hb; obtain ⟨z0, z1⟩ : w.heap.size < w1.heap.size ∧ w.heap.size + 1 < w1.heap.size := (by have hz_ := hb.size; (try simp at hz_); omega); have n_ : Below w.heap.size w _ := below_seq (by repeat (first | exact HB | refine Below.setCell ?_ (by dsimp only; omega) _ | refine Below.alloc ?_ (by have hs_ := HB.size; first | (simp; done) | (simp; omega) | omega) _ | apply Below.drew)) hb; clear HB; have HB := n_; clear n_))
              have g1 : FBox w1 (w.heap.size + 1) s vk l := ⟨by rw [hc _ _ (by simp)]; simp [go_sem], by rw [hc _ _ (by simp)]; simp [go_sem], by rw [hc _ _ (by simp)]; simp [go_sem]⟩
              have g2 : VBox w1 w.heap.size vk bits tx := ⟨by rw [hc _ _ (by simp; omega)]; simp [go_sem], by rw [hc _ _ (by simp; omega)]; simp [go_sem], by rw [hc _ _ (by simp; omega)]; simp [go_sem]⟩
              refine RW.start (fun w' => Below w.heap.size w w' ∧ FBox w' (w.heap.size + 1) s vk l ∧ VBox w' w.heap.size vk bits tx) (by kernel_rfl) (by kernel_rfl) ⟨HB.drew, g1, g2⟩ ?_
              clear g1 g2 hc hf hb HB z0 z1
              repeat (first
                | (refine' RW.val (by rfl) ?_ ?_; rotate_left; (focus (intro w' hS; obtain ⟨HB, ⟨c0, c1, c2⟩, ⟨d0, d1, d2⟩⟩ := hS; go_simp; rfl)); simp only [Act.put, List.setIfInBounds_toArray, List.set_cons_zero, List.set_cons_succ])
                | (refine RW.off (by rfl) ?_; simp only [Act.put, List.setIfInBounds_toArray, List.set_cons_zero, List.set_cons_succ])
                | (refine' RW.call (by rfl) ?_ ?_ ?_
                   rotate_left 3
                   (focus (intro w' hS; obtain ⟨HB, ⟨c0, c1, c2⟩, ⟨d0, d1, d2⟩⟩ := hS; go_simp; exact ⟨rfl, rfl⟩))
                   (focus
                     intro w' hS
                     obtain ⟨HB, ⟨c0, c1, c2⟩, ⟨d0, d1, d2⟩⟩ := hS
                     first
                       | (refine (rLong_calls _ _ _ _).mono ?_; rintro e w1 ⟨rfl, hb⟩; exact ⟨rfl, ⟨(below_seq HB hb), ⟨(cell_below (B := 0) hb c0), (cell_below (B := 0) hb c1), (cell_below (B := 0) hb c2)⟩, ⟨(cell_below (B := 0) hb d0), (cell_below (B := 0) hb d1), (cell_below (B := 0) hb d2)⟩⟩⟩)
                       | (refine (rFits_is _ _ _ h0 h1 _ HQ.out _).mono ?_; rintro e w1 ⟨rfl, rfl⟩; exact ⟨rfl, ⟨HB, ⟨c0, c1, c2⟩, ⟨d0, d1, d2⟩⟩⟩))
                   simp only [Act.put, List.setIfInBounds_toArray, List.set_cons_zero, List.set_cons_succ]))
              refine RW.done (fun w' hS => ?_)
              obtain ⟨HB, ⟨c0, c1, c2⟩, ⟨d0, d1, d2⟩⟩ := hS
              go_wp2
              go_ret
              exact ⟨ret_bool (by rw [rightB, H.out, HZ.out, HF.out, if_neg HK.out]; simp), HB⟩
        · have ht1 : (!tx.toList.isEmpty) = true := by simpa using ht
          have hsz : ¬ (tx.size : Int) = 0 := by
            intro h
            apply ht
            rw [ByteArray.toList_eq]
            exact List.eq_nil_of_length_eq_zero (by have := bl_length tx; rw [bl] at this; omega)
          have HZ := Lib.hid hsz
          clear hsz ht hrk hk9
          go_enter Tryz.func7, Tryz.ntmps7
          go_wp2_with (first | (go_at_call 15; refine (rMay_is _ _ _ _ H.out _).mono ?_; rintro e w1 ⟨rfl, hb⟩; obtain ⟨hc, hf⟩ := bcell hb; obtain ⟨z0, z1⟩ : w.heap.size < w1.heap.size ∧ w.heap.size + 1 < w1.heap.size := (by have hz_ := hb.size; (try simp at hz_); omega); have n_ : Below w.heap.size w _ := below_seq (by repeat (first | exact HB | refine Below.setCell ?_ (by dsimp only; omega) _ | refine Below.alloc ?_ (by have hs_ := HB.size; first | (simp; done) | (simp; omega) | omega) _ | apply Below.drew)) hb; clear HB; have HB := n_; clear n_))
          go_ret
          refine ⟨ret_bool ?_, HB⟩
          rw [rightB, H.out, if_neg hk, decide_eq_false HZ.out]
          simp
    · have hv' : (vk != k) = true := by simpa using hv
      clear hrk hk9
      go_enter Tryz.func7, Tryz.ntmps7
      go_wp2_with (first | (go_at_call 15; refine (rMay_is _ _ _ _ H.out _).mono ?_; rintro e w1 ⟨rfl, hb⟩; obtain ⟨hc, hf⟩ := bcell hb; obtain ⟨z0, z1⟩ : w.heap.size < w1.heap.size ∧ w.heap.size + 1 < w1.heap.size := (by have hz_ := hb.size; (try simp at hz_); omega); have n_ : Below w.heap.size w _ := below_seq (by repeat (first | exact HB | refine Below.setCell ?_ (by dsimp only; omega) _ | refine Below.alloc ?_ (by have hs_ := HB.size; first | (simp; done) | (simp; omega) | omega) _ | apply Below.drew)) hb; clear HB; have HB := n_; clear n_))
      go_ret
      refine ⟨ret_bool ?_, HB⟩
      rw [rightB, H.out]
      simp [hv]
end Go.Proofs.YtehcpjodkadfnaaGreat
/- Layer 5's reference, second part: zero values, bytes of values, values of bytes. -/
set_option linter.unusedSimpArgs false
set_option linter.unusedVariables false
set_option maxRecDepth 100000
namespace Go.Proofs.YtehcpjodkadfnaaGreat
open Go.RowKit

theorem FBox.far {w : World} {b : Nat} {s : ByteArray} {k l : Int} (h : FBox w b s k l) {p : Addr} (hp : p.block ≠ b) (v : Value) : FBox (w.setCell p v) b s k l :=
  ⟨(World.cell?_setCell_far w p _ v hp).trans h.1, (World.cell?_setCell_far w p _ v hp).trans h.2.1, (World.cell?_setCell_far w p _ v hp).trans h.2.2⟩
theorem VBox.far {w : World} {b : Nat} {k x : Int} {t : ByteArray} (h : VBox w b k x t) {p : Addr} (hp : p.block ≠ b) (v : Value) : VBox (w.setCell p v) b k x t :=
  ⟨(World.cell?_setCell_far w p _ v hp).trans h.1, (World.cell?_setCell_far w p _ v hp).trans h.2.1, (World.cell?_setCell_far w p _ v hp).trans h.2.2⟩
theorem VBox.text {w : World} {b : Nat} {k x : Int} {t : ByteArray} (h : VBox w b k x t) (t' : ByteArray) : VBox (w.setCell ⟨b, 2, none⟩ (.string t')) b k x t' :=
  ⟨(World.cell?_setCell_other w _ _ _ (by simp)).trans h.1, (World.cell?_setCell_other w _ _ _ (by simp)).trans h.2.1, World.cell?_setCell_same w _ _ h.2.2⟩

/-- a number's bytes, if it has so few -/
def putL (n : Int) (width : Nat) : List UInt8 := if fitsB n width false = true then leL n width else []
theorem tz_top {n : Nat} (h : widthB n = true) : tz n = topZ n - 1 := by
  have := width_cases h
  rcases (by omega : n = 1 ∨ n = 2 ∨ n = 4 ∨ n = 8) with rfl | rfl | rfl | rfl <;> rfl
theorem rPut_calls (n : Int) (width : Nat) (hw : width ≤ 8) (h0 : 0 ≤ n) (h1 : n < 18446744073709551616) (w : World) : Calls Tryz.prog 78 #[.int .i64 width, .int .u64 n] w fun e w' => e = .returned (.string (strL (putL n width))) ∧ Below w.heap.size w w' := by
  by_cases h : fitsB n width false = true
  · rw [putL, if_pos h]
    simp only [fitsB, Bool.and_eq_true] at h
    exact rPut_some n width hw h.1 h0 h1 (by rw [tz_top h.1]; have := h.2; simp at this; omega) w
  · rw [putL, if_neg h]
    refine rPut_none n width hw h0 h1 (fun hb => ?_) w
    rw [tz_top hb]
    simp [fitsB, hb] at h; omega
theorem rPut_is (n : Int) (h0 : 0 ≤ n) (h1 : n < 18446744073709551616) (w : World) : Calls Tryz.prog 78 #[.int .i64 8, .int .u64 n] w fun e w' => e = .returned (.string (strL (leL n 8))) ∧ Below w.heap.size w w' := by
  have := rPut_calls n 8 (by omega) h0 h1 w
  rwa [putL, if_pos (by simp [fitsB, widthB, topZ]; omega)] at this
theorem rRight_is5 (vk bits : Int) (tx s : ByteArray) (k l : Int) (h0 : 0 ≤ bits) (h1 : bits < 18446744073709551616) (r : Bool) (h : rightB vk bits tx k l = r) (w : World) :
    Calls Tryz.prog 7 #[.agg #[.int .i64 vk, .int .u64 bits, .string tx], .agg #[.string s, .int .i64 k, .int .i64 l]] w fun e w' => e = .returned (.bool r) ∧ Below w.heap.size w w' := h ▸ rRight_calls5 vk bits tx s k l h0 h1 w

/-- the string of a value, and the error -/
def encS (vk bits : Int) (tx : ByteArray) (k l : Int) : ByteArray := if rightB vk bits tx k l = true then strL (encL bits tx k l) else ⟨#[]⟩
def encE (vk bits : Int) (tx : ByteArray) (k l : Int) : Int := if rightB vk bits tx k l = true then 0 else 50

theorem leL_take (n : Int) {j k : Nat} (h : j ≤ k) : (leL n k).take j = leL n j := by
  apply List.ext_getElem?
  intro i
  simp only [leL, List.getElem?_take, List.getElem?_map]
  by_cases hi : i < j
  · simp [hi, show i < k by omega]
  · simp [hi, List.getElem?_eq_none (show (List.range j).length ≤ i by simp; omega)]
theorem strL_extract (l : List UInt8) (n : Nat) : (strL l).extract 0 n = strL (l.take n) := by
  apply ByteArray.ext; simp [strL]

theorem rEncode_calls (vk bits : Int) (tx s : ByteArray) (k l : Int) (h0 : 0 ≤ bits) (h1 : bits < 18446744073709551616) (w : World) :
    Calls Tryz.prog 58 #[.agg #[.int .i64 vk, .int .u64 bits, .string tx], .agg #[.string s, .int .i64 k, .int .i64 l]] w fun e w' => e = .returned (.tuple #[.string (encS vk bits tx k l), .int .i64 (encE vk bits tx k l)]) ∧ Below w.heap.size w w' := by
  have HB := Below.refl w.heap.size w
  by_cases hr : rightB vk bits tx k l = true
  · rw [encS, encE, if_pos hr, if_pos hr]
    have hm := (right_may hr).1
    have H := Lib.hid hr
    clear hr
    by_cases hk : k = 12
    · subst hk
      rw [encL, if_pos rfl, strL_bl]
      clear hm
      go_enter Tryz.func58, Tryz.ntmps58
      go_wp2_with (first | (go_at_call 7; refine (rRight_is5 _ _ _ _ _ _ h0 h1 _ H.out _).mono ?_; rintro e w1 ⟨rfl, hb⟩; obtain ⟨hc, hf⟩ := bcell hb; obtain ⟨z0, z1⟩ : w.heap.size < w1.heap.size ∧ w.heap.size + 1 < w1.heap.size := (by have hz_ := hb.size; (try simp at hz_); omega); have n_ : Below w.heap.size w _ := below_seq (by repeat (first | exact HB | refine Below.setCell ?_ (by dsimp only; omega) _ | refine Below.alloc ?_ (by have hs_ := HB.size; first | (simp; done) | (simp; omega) | omega) _ | apply Below.drew)) hb; clear HB; have HB := n_; clear n_))
      go_ret2
      exact ⟨rfl, HB⟩
    · have hlc := long_cases hm hk
      have hk' : (k == 12) = false := by simpa using hk
      obtain ⟨n, hn⟩ : ∃ n : Nat, longZ k l = n := ⟨(longZ k l).toNat, by omega⟩
      have hn8 : n ≤ 8 := by omega
      rw [encL, if_neg hk, hn]
      have HN := Lib.hid hn
      clear hn hlc hm
      go_enter Tryz.func58, Tryz.ntmps58
      go_wp2_with (first | (go_at_call 7; refine (rRight_is5 _ _ _ _ _ _ h0 h1 _ H.out _).mono ?_; rintro e w1 ⟨rfl, hb⟩; obtain ⟨hc, hf⟩ := bcell hb; obtain ⟨z0, z1⟩ : w.heap.size < w1.heap.size ∧ w.heap.size + 1 < w1.heap.size := (by have hz_ := hb.size; (try simp at hz_); omega); have n_ : Below w.heap.size w _ := below_seq (by repeat (first | exact HB | refine Below.setCell ?_ (by dsimp only; omega) _ | refine Below.alloc ?_ (by have hs_ := HB.size; first | (simp; done) | (simp; omega) | omega) _ | apply Below.drew)) hb; clear HB; have HB := n_; clear n_))
      have g1 : FBox w1 (w.heap.size + 1) s k l := ⟨by rw [hc _ _ (by simp)]; simp [go_sem], by rw [hc _ _ (by simp)]; simp [go_sem], by rw [hc _ _ (by simp)]; simp [go_sem]⟩
      have g2 : VBox w1 w.heap.size vk bits tx := ⟨by rw [hc _ _ (by simp; omega)]; simp [go_sem], by rw [hc _ _ (by simp; omega)]; simp [go_sem], by rw [hc _ _ (by simp; omega)]; simp [go_sem]⟩
      have hsz : (strL (leL bits 8)).size = 8 := by rw [strL_size, leL_length]
      have hn8' : (n : Int) ≤ 8 := by omega
      refine RW.start (fun w' => Below w.heap.size w w' ∧ FBox w' (w.heap.size + 1) s k l ∧ VBox w' w.heap.size vk bits tx) (by kernel_rfl) (by kernel_rfl) ⟨HB.drew, g1, g2⟩ ?_
      clear g1 g2 hc hf hb HB z0 z1
      repeat (first
        | (refine' RW.val (by rfl) ?_ ?_; rotate_left; (focus (intro w' hS; obtain ⟨HB, ⟨c0, c1, c2⟩, ⟨d0, d1, d2⟩⟩ := hS; go_simp; rfl)); simp only [Act.put, List.setIfInBounds_toArray, List.set_cons_zero, List.set_cons_succ])
        | (refine RW.off (by rfl) ?_; simp only [Act.put, List.setIfInBounds_toArray, List.set_cons_zero, List.set_cons_succ])
        | (refine' RW.call (by rfl) ?_ ?_ ?_
           rotate_left 3
           (focus (intro w' hS; obtain ⟨HB, ⟨c0, c1, c2⟩, ⟨d0, d1, d2⟩⟩ := hS; go_simp; exact ⟨rfl, rfl⟩))
           (focus
             intro w' hS
             obtain ⟨HB, ⟨c0, c1, c2⟩, ⟨d0, d1, d2⟩⟩ := hS
             first
               | (refine (rLong_is _ _ _ _ HN.out _).mono ?_; rintro e w1 ⟨rfl, hb⟩; exact ⟨rfl, ⟨(below_seq HB hb), ⟨(cell_below (B := 0) hb c0), (cell_below (B := 0) hb c1), (cell_below (B := 0) hb c2)⟩, ⟨(cell_below (B := 0) hb d0), (cell_below (B := 0) hb d1), (cell_below (B := 0) hb d2)⟩⟩⟩)
               | (refine (rPut_is _ h0 h1 _).mono ?_; rintro e w1 ⟨rfl, hb⟩; exact ⟨rfl, ⟨(below_seq HB hb), ⟨(cell_below (B := 0) hb c0), (cell_below (B := 0) hb c1), (cell_below (B := 0) hb c2)⟩, ⟨(cell_below (B := 0) hb d0), (cell_below (B := 0) hb d1), (cell_below (B := 0) hb d2)⟩⟩⟩))
           simp only [Act.put, List.setIfInBounds_toArray, List.set_cons_zero, List.set_cons_succ]))
      refine RW.done (fun w' hS => ?_)
      obtain ⟨HB, ⟨c0, c1, c2⟩, ⟨d0, d1, d2⟩⟩ := hS
      go_wp2
      go_ret2
      exact ⟨by simp [strL_extract, leL_take _ hn8], HB⟩
  · have hr' : rightB vk bits tx k l = false := by simpa using hr
    rw [encS, encE, if_neg hr, if_neg hr]
    have H := Lib.hid hr'
    clear hr hr'
    go_enter Tryz.func58, Tryz.ntmps58
    go_wp2_with (first | (go_at_call 7; refine (rRight_is5 _ _ _ _ _ _ h0 h1 _ H.out _).mono ?_; rintro e w1 ⟨rfl, hb⟩; obtain ⟨hc, hf⟩ := bcell hb; obtain ⟨z0, z1⟩ : w.heap.size < w1.heap.size ∧ w.heap.size + 1 < w1.heap.size := (by have hz_ := hb.size; (try simp at hz_); omega); have n_ : Below w.heap.size w _ := below_seq (by repeat (first | exact HB | refine Below.setCell ?_ (by dsimp only; omega) _ | refine Below.alloc ?_ (by have hs_ := HB.size; first | (simp; done) | (simp; omega) | omega) _ | apply Below.drew)) hb; clear HB; have HB := n_; clear n_))
    go_ret2
    exact ⟨rfl, HB⟩
end Go.Proofs.YtehcpjodkadfnaaGreat
