/- Merged out of: Kq Kr. -/
import Derived.Test.YtehcpjodkadfnaaUi
/- Layer 5's reference, fifth part: which casts may be. -/
set_option linter.unusedSimpArgs false
set_option linter.unusedVariables false
set_option maxRecDepth 100000
namespace Go.Proofs.Ytehcpjodkadfnaa
open Go.RowKit

/-- the reference's order of asking -/
def refB (k k2 : Int) (more : Bool) : Bool :=
  if k = k2 then true else if k ≤ 4 ∧ k2 ≤ 8 then more else if k = 9 ∧ k2 ≤ 8 then more || decide (k2 = 1) else if 5 ≤ k ∧ k ≤ 8 ∧ 5 ≤ k2 ∧ k2 ≤ 8 then more else if k ≤ 8 ∧ k2 = 10 then true else decide (k = 10) && decide (k2 = 8)
theorem may_kind {k l : Int} (h : mayB k l = true) : 1 ≤ k ∧ k ≤ 12 := by
  by_cases hk : k = 12
  · omega
  · have := mayB_of h hk
    have := (size_pos k).1 this.2
    omega
theorem casts_ref {k l k2 l2 : Int} (h : mayB k l = true) (h2 : mayB k2 l2 = true) : castsB k l k2 l2 = refB k k2 (decide (longZ k l < longZ k2 l2)) := by
  have b1 := may_kind h
  have b2 := may_kind h2
  have hz : ∀ {k l : Int}, mayB k l = true → longZ k l ≠ 0 := fun {k l} h => by
    by_cases hk : k = 12
    · subst hk
      have := btw_iff.1 (mayB_12 ▸ h)
      rw [long_12 h]; omega
    · have := long_cases h hk; omega
  have n1 := hz h
  have n2 := hz h2
  have e9 : k = 9 → longZ k l = 1 := fun e => by subst e; rw [longZ, if_pos h]; rfl
  have e2 : k2 = 2 → longZ k2 l2 = 2 := fun e => by subst e; rw [longZ, if_pos h2]; rfl
  have e3 : k2 = 3 → longZ k2 l2 = 4 := fun e => by subst e; rw [longZ, if_pos h2]; rfl
  have e4 : k2 = 4 → longZ k2 l2 = 8 := fun e => by subst e; rw [longZ, if_pos h2]; rfl
  unfold castsB refB
  generalize longZ k l = x at *
  generalize longZ k2 l2 = y at *
  clear hz h h2
  rw [Bool.eq_iff_iff]
  simp only [btw, decide_eq_true_eq]
  rcases (by omega : k ≤ 4 ∨ (5 ≤ k ∧ k ≤ 8) ∨ k = 9 ∨ 10 ≤ k) with c | c | c | c
  all_goals grind (splits := 30)
set_option maxHeartbeats 3200000 in
theorem rCasts_calls (s s2 : ByteArray) (k l k2 l2 : Int) (w : World) : Calls Try.prog 31 #[.agg #[.string s, .int .i64 k, .int .i64 l], .agg #[.string s2, .int .i64 k2, .int .i64 l2]] w fun e w' => e = .returned (.bool (castsB k l k2 l2)) ∧ Below w.heap.size w w' := by
  have HB : Below w.heap.size w ((w.alloc (.cells #[.string s, .int .i64 k, .int .i64 l] 24)).alloc (.cells #[.string s2, .int .i64 k2, .int .i64 l2] 24)) := (below_new _).alloc (by simp) _
  obtain ⟨m1, hm1⟩ : ∃ r, mayB k l = r := ⟨_, rfl⟩
  obtain ⟨m2, hm2⟩ : ∃ r, mayB k2 l2 = r := ⟨_, rfl⟩
  have H1 := Lib.hid hm1; have H2 := Lib.hid hm2
  by_cases hb : m1 = true ∧ m2 = true
  · obtain ⟨rfl, rfl⟩ := hb
    rw [casts_ref hm1 hm2]
    obtain ⟨b1, b2⟩ := may_kind hm1
    obtain ⟨b3, b4⟩ := may_kind hm2
    clear hm1 hm2
    go_enter Try.func31, Try.ntmps31
    go_wp2_with (first
      | (go_at_call 37; refine (rMay_calls _ _ _ _).mono ?_; rintro e w1 ⟨rfl, hb⟩; obtain ⟨hc, hf⟩ := bcell hb; obtain ⟨z0, z1⟩ : w.heap.size < w1.heap.size ∧ w.heap.size + 1 < w1.heap.size := (by have hz_ := hb.size; (try simp at hz_); omega); (first | rw [H1.out] | rw [H2.out]); have n_ : Below w.heap.size w _ := below_seq (by repeat (first | exact HB | refine Below.setCell ?_ (by dsimp only; omega) _ | refine Below.alloc ?_ (by have hs_ := HB.size; first | (simp; done) | (simp; omega) | omega) _ | apply Below.drew)) hb; clear HB; have HB := n_; clear n_))
    have g1 : FBox w1 w.heap.size s k l := ⟨by go_simp, by go_simp, by go_simp⟩
    have g2 : FBox w1 (w.heap.size + 1) s2 k2 l2 := ⟨by go_simp, by go_simp, by go_simp⟩
    refine RW.start (fun w' => Below w.heap.size w w' ∧ FBox w' w.heap.size s k l ∧ FBox w' (w.heap.size + 1) s2 k2 l2) (by kernel_rfl) (by kernel_rfl) ⟨HB.drew, g1, g2⟩ ?_
    clear g1 g2 hc hf hb HB z0 z1
    repeat (first
      | (refine' RW.val (by rfl) ?_ ?_; rotate_left; (focus (intro w' hS; obtain ⟨HB, ⟨c0, c1, c2⟩, ⟨d0, d1, d2⟩⟩ := hS; go_simp; rfl)); simp only [Act.put, List.setIfInBounds_toArray, List.set_cons_zero, List.set_cons_succ])
      | (refine RW.off (by rfl) ?_; simp only [Act.put, List.setIfInBounds_toArray, List.set_cons_zero, List.set_cons_succ])
      | (refine' RW.call (by rfl) ?_ ?_ ?_
         rotate_left 3
         (focus (intro w' hS; obtain ⟨HB, ⟨c0, c1, c2⟩, ⟨d0, d1, d2⟩⟩ := hS; go_simp; exact ⟨rfl, rfl⟩))
         (focus
           intro w' hS
           obtain ⟨HB, ⟨c0, c1, c2⟩, ⟨d0, d1, d2⟩⟩ := hS
           first
             | (refine (rLong_calls _ _ _ _).mono ?_; rintro e w1 ⟨rfl, hb⟩; exact ⟨rfl, ⟨(below_seq HB hb), ⟨(cell_below (B := 0) hb c0), (cell_below (B := 0) hb c1), (cell_below (B := 0) hb c2)⟩, ⟨(cell_below (B := 0) hb d0), (cell_below (B := 0) hb d1), (cell_below (B := 0) hb d2)⟩⟩⟩))
         simp only [Act.put, List.setIfInBounds_toArray, List.set_cons_zero, List.set_cons_succ]))
    refine RW.done (fun w' hS => ?_)
    obtain ⟨HB, ⟨c0, c1, c2⟩, ⟨d0, d1, d2⟩⟩ := hS
    go_wp2_with fail
    all_goals
      go_ret
      refine ⟨ret_bool ?_, HB⟩
      clear HB c0 c1 c2 d0 d1 d2
      try simp only [beq_iff_eq, beq_eq_false_iff_ne, ne_eq] at *
      unfold refB
      generalize longZ k l = x at *
      generalize longZ k2 l2 = y at *
      clear H1 H2
      grind (splits := 30)
  · have hcf : castsB k l k2 l2 = false := by
      rw [castsB, if_pos]
      by_cases h1 : m1 = true
      · have h2 : m2 = false := by cases m2 <;> simp_all
        exact .inr (by rw [longZ, hm2, h2]; rfl)
      · have h1 : m1 = false := by simpa using h1
        exact .inl (by rw [longZ, hm1, h1]; rfl)
    rw [hcf]
    have hb' : m1 = false ∨ (m1 = true ∧ m2 = false) := by cases m1 <;> cases m2 <;> simp_all
    clear hm1 hm2 hcf hb
    rcases hb' with rfl | ⟨rfl, rfl⟩
    all_goals
      go_enter Try.func31, Try.ntmps31
      go_wp2_with (first
        | (go_at_call 37; refine (rMay_calls _ _ _ _).mono ?_; rintro e w1 ⟨rfl, hb⟩; obtain ⟨hc, hf⟩ := bcell hb; obtain ⟨z0, z1⟩ : w.heap.size < w1.heap.size ∧ w.heap.size + 1 < w1.heap.size := (by have hz_ := hb.size; (try simp at hz_); omega); (first | rw [H1.out] | rw [H2.out]); have n_ : Below w.heap.size w _ := below_seq (by repeat (first | exact HB | refine Below.setCell ?_ (by dsimp only; omega) _ | refine Below.alloc ?_ (by have hs_ := HB.size; first | (simp; done) | (simp; omega) | omega) _ | apply Below.drew)) hb; clear HB; have HB := n_; clear n_))
      go_ret
      exact ⟨ret_bool rfl, HB⟩
end Go.Proofs.Ytehcpjodkadfnaa
/- Layer 5's reference, sixth part: the float64 next to a number. -/
set_option linter.unusedSimpArgs false
set_option linter.unusedVariables false
set_option maxRecDepth 100000
namespace Go.Proofs.Ytehcpjodkadfnaa
open Go.RowKit

/-- the last bit that was cut, behind k rounds -/
def hlB (m : Nat) : Nat → Bool
  | 0 => false
  | k + 1 => (((m / 2 ^ k : Nat) : Int) % 2 == 1)
/-- was any bit cut before it? -/
def ltB (m : Nat) : Nat → Bool
  | 0 => false
  | k + 1 => !(decide (m % 2 ^ k = 0))
theorem lo_step (m k : Nat) : ltB m (k + 1) = (ltB m k || hlB m k) := by
  cases k with
  | zero => simp [ltB, hlB, Nat.mod_one]
  | succ j =>
    have hp := Nat.two_pow_pos j
    simp only [ltB, hlB]
    rw [Nat.mod_pow_succ]
    have h2 : m / 2 ^ j % 2 = 0 ∨ m / 2 ^ j % 2 = 1 := by omega
    rw [Bool.eq_iff_iff]
    simp only [Bool.not_eq_true', decide_eq_false_iff_not, Bool.or_eq_true, beq_iff_eq]
    generalize 2 ^ j = P at *
    generalize m / P = Q at *
    rcases h2 with h | h
    · rw [h]; omega
    · rw [h]; omega
theorem rup_is (m : Nat) (h : 52 < m.log2) : rup m = (hlB m (m.log2 - 52) && (ltB m (m.log2 - 52) || ((sgn m : Int) % 2 == 1))) := by
  have hs : sgn m = m / 2 ^ (m.log2 - 52) := by rw [sgn, if_neg (by omega)]
  rw [hs, rup, decide_eq_true h, Bool.true_and]
  obtain ⟨j, hj⟩ : ∃ j, m.log2 - 52 = j + 1 := ⟨m.log2 - 53, by omega⟩
  rw [hj]
  simp only [ltB, hlB]
  have e := Nat.mod_pow_succ (x := m) (b := 2) (k := j)
  rw [e]
  clear e
  have hp := Nat.two_pow_pos j
  have h2 : m / 2 ^ j % 2 = 0 ∨ m / 2 ^ j % 2 = 1 := by omega
  have hlt := Nat.mod_lt m hp
  rw [Nat.pow_succ]
  generalize m / (2 ^ j * 2) = R at *
  generalize 2 ^ j = P at *
  generalize m % P = S at *
  generalize m / P = Q at *
  rw [Bool.eq_iff_iff]
  simp only [Bool.or_eq_true, Bool.and_eq_true, decide_eq_true_eq, beq_iff_eq, Bool.not_eq_true', decide_eq_false_iff_not]
  rcases h2 with h | h
  · rw [h]; omega
  · rw [h]; omega
theorem div_big {m k : Nat} (h0 : m ≠ 0) (h : k < m.log2 - 52) : 9007199254740992 ≤ m / 2 ^ k := by
  have h1 := Nat.log2_self_le h0
  rw [Nat.le_div_iff_mul_le (Nat.two_pow_pos k)]
  calc 9007199254740992 * 2 ^ k = 2 ^ (53 + k) := by rw [Nat.pow_add]
    _ ≤ 2 ^ m.log2 := Nat.pow_le_pow_right (by decide) (by omega)
    _ ≤ m := h1
theorem mul_small {m k : Nat} (h0 : m ≠ 0) (h : k < 52 - m.log2) : m * 2 ^ k < 4503599627370496 := by
  have h1 : m < 2 ^ (m.log2 + 1) := Nat.lt_log2_self
  calc m * 2 ^ k < 2 ^ (m.log2 + 1) * 2 ^ k := Nat.mul_lt_mul_of_pos_right h1 (Nat.two_pow_pos k)
    _ = 2 ^ (m.log2 + 1 + k) := by rw [← Nat.pow_add]
    _ ≤ 2 ^ 52 := Nat.pow_le_pow_right (by decide) (by omega)
/-- what the reference's Float gives -/
def refF (m : Nat) (minus : Bool) : Int := if m = 0 then 0 else (fBits minus m : Int)

set_option maxHeartbeats 1600000 in
theorem rFloat_zero (minus : Bool) (w : World) : Calls Try.prog 76 #[.int .u64 0, .bool minus] w fun e w' => e = .returned (.int .u64 0) ∧ w = w' := by
  go_enter Try.func76, Try.ntmps76
  go_wp2
  go_ret
  exact ⟨rfl, rfl⟩

set_option maxHeartbeats 3200000 in
theorem rFloat_big (m : Nat) (h0 : m ≠ 0) (h1 : m < 18446744073709551616) (hL : 52 < m.log2) (minus : Bool) (r : Int) (hr : (fBits minus m : Int) = r) (w : World) : Calls Try.prog 76 #[.int .u64 m, .bool minus] w fun e w' => e = .returned (.int .u64 r) ∧ w = w' := by
  have hl64 : m.log2 < 64 := by rw [Nat.log2_lt h0]; omega
  have t0 : ((m : Int) == 0) = false := by simpa using h0
  have hsg := sgn_bd m h0
  have hrp := rup_is m hL
  have hsd : m / 2 ^ (m.log2 - 52) = sgn m := by rw [sgn, if_neg (by omega)]
  rw [fBits, if_neg h0] at hr
  have hbig := fun k => div_big (m := m) (k := k) h0
  obtain ⟨K, hK⟩ : ∃ K, m.log2 - 52 = K := ⟨_, rfl⟩
  rw [hK] at hrp hsd hbig
  have hKL : m.log2 = K + 52 := by omega
  rw [hKL] at hr
  go_enter Try.func76, Try.ntmps76
  go_wp2
  go_loop [0, 5, 6, 7] (fun x p lo hf => ∃ k : Nat, k ≤ K ∧ x = .int .u64 ((m / 2 ^ k : Nat) : Int) ∧ p = .int .i64 (1075 + k) ∧ lo = .bool (ltB m k) ∧ hf = .bool (hlB m k)) (fun _ p _ _ => K + 1075 - (intOf p).toNat)
  case atStart => exact ⟨0, by omega, by simp, by simp, rfl, rfl⟩
  case round =>
    obtain ⟨k, hk, rfl, rfl, rfl, rfl⟩ := hrel
    by_cases hlt : k < K
    · have hb := hbig k hlt
      have hle : m / 2 ^ k ≤ m := Nat.div_le_self _ _
      have hst := lo_step m k
      have hh : hlB m (k + 1) = (((m / 2 ^ k : Nat) : Int) % 2 == 1) := rfl
      have hd : m / 2 ^ (k + 1) = m / 2 ^ k / 2 := by rw [Nat.pow_succ, Nat.div_div_eq_div_mul]
      generalize hx : m / 2 ^ k = x at *
      have g1 : decide (9007199254740992 ≤ (x : Int)) = true := by simp; omega
      generalize ltB m k = a at *
      generalize hlB m k = b at *
      clear hrp hsd hsg hr
      cases a
      all_goals
        go_wp2
        go_round
        case rel => exact ⟨k + 1, by omega, by rw [hd]; go_num, by go_num, by rw [hst]; rfl, by rw [hh]⟩
        case measure => simp [intOf]; omega
    · obtain rfl : k = K := by omega
      rw [hsd]
      generalize sgn m = g at *
      generalize ltB m k = a at *
      generalize hlB m k = b at *
      generalize rup m = u at *
      have hkk : k ≤ 11 := by omega
      clear hbig hsd hK hKL h0 h1 hL t0 hl64 hk hlt
      obtain ⟨g0, g1⟩ := hsg
      have z1 : decide (9007199254740992 ≤ (g : Int)) = false := by simp; omega
      have z2 : decide ((g : Int) < 4503599627370496) = false := by simp; omega
      obtain ⟨c, hc⟩ : ∃ c, ((g : Int) % 2 == 1) = c := ⟨_, rfl⟩
      rw [hc] at hrp
      go_wp2
      go_loop [0, 5] (fun x p => x = .int .u64 (g : Int) ∧ p = .int .i64 (1075 + k)) (fun _ _ => 0)
      case atStart => exact ⟨rfl, rfl⟩
      case round =>
        obtain ⟨rfl, rfl⟩ := hrel
        cases b <;> cases a <;> cases c <;> cases minus
        all_goals
          simp only [Bool.and_false, Bool.false_and, Bool.and_true, Bool.true_and, Bool.or_true, Bool.true_or, Bool.or_false, Bool.false_or] at hrp
          subst hrp
          simp only [Bool.toNat_false, Bool.toNat_true, Bool.false_eq_true, if_true, if_false] at hr
          go_wp2
          go_ret
          exact ⟨ret_int (by omega), rfl⟩

set_option maxHeartbeats 3200000 in
theorem rFloat_small (m : Nat) (h0 : m ≠ 0) (h1 : m < 18446744073709551616) (hL : m.log2 ≤ 52) (minus : Bool) (r : Int) (hr : (fBits minus m : Int) = r) (w : World) : Calls Try.prog 76 #[.int .u64 m, .bool minus] w fun e w' => e = .returned (.int .u64 r) ∧ w = w' := by
  have t0 : ((m : Int) == 0) = false := by simpa using h0
  have hsg := sgn_bd m h0
  have hrp : rup m = false := by rw [rup, decide_eq_false (by omega)]; rfl
  have hsd : m * 2 ^ (52 - m.log2) = sgn m := by rw [sgn, if_pos hL]
  have hm : m < 9007199254740992 := by
    have := (Nat.log2_lt (n := m) (k := 53) h0).1 (by omega)
    omega
  rw [fBits, if_neg h0, hrp] at hr
  have hbig := fun k => mul_small (m := m) (k := k) h0
  obtain ⟨K, hK⟩ : ∃ K, 52 - m.log2 = K := ⟨_, rfl⟩
  rw [hK] at hsd hbig
  obtain ⟨L, hKL⟩ : ∃ L, m.log2 = L := ⟨_, rfl⟩
  rw [hKL] at hr
  have hLK : L + K = 52 := by omega
  have z1 : decide (9007199254740992 ≤ (m : Int)) = false := by simp; omega
  go_enter Try.func76, Try.ntmps76
  go_wp2
  go_loop [0, 5, 6, 7] (fun x p lo hf => x = .int .u64 (m : Int) ∧ p = .int .i64 1075 ∧ lo = .bool false ∧ hf = .bool false) (fun _ _ _ _ => 0)
  case atStart => exact ⟨rfl, rfl, rfl, rfl⟩
  case round =>
    obtain ⟨rfl, rfl, rfl, rfl⟩ := hrel
    go_wp2
    go_loop [0, 5] (fun x p => ∃ k : Nat, k ≤ K ∧ x = .int .u64 ((m * 2 ^ k : Nat) : Int) ∧ p = .int .i64 (1075 - (k : Int))) (fun _ p => ((intOf p) - 1023).toNat)
    case atStart => exact ⟨0, by omega, by simp, by simp⟩
    case round =>
      obtain ⟨k, hk, rfl, rfl⟩ := hrel
      by_cases hlt : k < K
      · have hb := hbig k hlt
        have hd : m * 2 ^ (k + 1) = m * 2 ^ k * 2 := by rw [Nat.pow_succ, Nat.mul_assoc]
        generalize hx : m * 2 ^ k = x at *
        have g1 : decide ((x : Int) < 4503599627370496) = true := by simp; omega
        clear hrp hsd hsg hr hbig
        go_wp2
        go_round
        case rel => exact ⟨k + 1, by omega, by rw [hd]; (first | rfl | (simp; done) | (simp; omega)), by rw [show (1075 - (k : Int) - 1) = 1075 - ((k + 1 : Nat) : Int) by omega]⟩
        case measure => simp [intOf]; omega
      · obtain rfl : k = K := by omega
        rw [hsd]
        generalize sgn m = g at *
        clear hbig hsd hK h0 hL t0 hk hlt hrp hKL z1
        obtain ⟨g0, g1⟩ := hsg
        have z2 : decide ((g : Int) < 4503599627370496) = false := by simp; omega
        cases minus
        all_goals
          simp only [Bool.toNat_false, Bool.toNat_true, Bool.false_eq_true, if_true, if_false] at hr
          go_wp2
          go_ret
          exact ⟨ret_int (by omega), rfl⟩
end Go.Proofs.Ytehcpjodkadfnaa
