/- Layer 5's reference, fifth part: which casts may be. -/
import Derived.Test.YtefbogpobejoeaaKp
set_option linter.unusedSimpArgs false
set_option linter.unusedVariables false
namespace Go.Proofs.Ytefbogpobejoeaa
open Go.RowKit

/-- the reference's order of asking -/
def refB (k k2 : Int) (more : Bool) : Bool :=
  if k = k2 then true else if k ≤ 4 ∧ k2 ≤ 8 then more else if k = 9 ∧ k2 ≤ 8 then more || decide (k2 = 1) else if 5 ≤ k ∧ k ≤ 8 ∧ 5 ≤ k2 ∧ k2 ≤ 8 then more else if k ≤ 8 ∧ k2 = 10 then true else decide (k = 10) && decide (k2 = 8)
theorem may_kind {k l : Int} (h : mayB k l = true) : 1 ≤ k ∧ k ≤ 12 := by
  by_cases hk : k = 12
  · omega
  · have := mayB_of h hk
    have := (size_pos k).1 this.2
    omega
theorem casts_ref {k l k2 l2 : Int} (h : mayB k l = true) (h2 : mayB k2 l2 = true) : castsB k l k2 l2 = refB k k2 (decide (longZ k l < longZ k2 l2)) := by
  have b1 := may_kind h
  have b2 := may_kind h2
  have hz : ∀ {k l : Int}, mayB k l = true → longZ k l ≠ 0 := fun {k l} h => by
    by_cases hk : k = 12
    · subst hk
      have := btw_iff.1 (mayB_12 ▸ h)
      rw [long_12 h]; omega
    · have := long_cases h hk; omega
  have n1 := hz h
  have n2 := hz h2
  have e9 : k = 9 → longZ k l = 1 := fun e => by subst e; rw [longZ, if_pos h]; rfl
  have e2 : k2 = 2 → longZ k2 l2 = 2 := fun e => by subst e; rw [longZ, if_pos h2]; rfl
  have e3 : k2 = 3 → longZ k2 l2 = 4 := fun e => by subst e; rw [longZ, if_pos h2]; rfl
  have e4 : k2 = 4 → longZ k2 l2 = 8 := fun e => by subst e; rw [longZ, if_pos h2]; rfl
  unfold castsB refB
  generalize longZ k l = x at *
  generalize longZ k2 l2 = y at *
  clear hz h h2
  rw [Bool.eq_iff_iff]
  simp only [btw, decide_eq_true_eq]
  rcases (by omega : k ≤ 4 ∨ (5 ≤ k ∧ k ≤ 8) ∨ k = 9 ∨ 10 ≤ k) with c | c | c | c
  all_goals grind (splits := 30)
set_option maxHeartbeats 3200000 in
theorem rCasts_calls (s s2 : ByteArray) (k l k2 l2 : Int) (w : World) : Calls Try.prog 15 #[.agg #[.string s, .int .i64 k, .int .i64 l], .agg #[.string s2, .int .i64 k2, .int .i64 l2]] w fun e w' => e = .returned (.bool (castsB k l k2 l2)) ∧ Below w.heap.size w w' := by
  have HB : Below w.heap.size w ((w.alloc (.cells #[.string s, .int .i64 k, .int .i64 l] 26)).alloc (.cells #[.string s2, .int .i64 k2, .int .i64 l2] 26)) := (below_new _).alloc (by simp) _
  obtain ⟨m1, hm1⟩ : ∃ r, mayB k l = r := ⟨_, rfl⟩
  obtain ⟨m2, hm2⟩ : ∃ r, mayB k2 l2 = r := ⟨_, rfl⟩
  have H1 := Lib.hid hm1; have H2 := Lib.hid hm2
  by_cases hb : m1 = true ∧ m2 = true
  · obtain ⟨rfl, rfl⟩ := hb
    rw [casts_ref hm1 hm2]
    obtain ⟨b1, b2⟩ := may_kind hm1
    obtain ⟨b3, b4⟩ := may_kind hm2
    clear hm1 hm2
    go_enter Try.func15, Try.ntmps15
    go_wp2_with (first
      | (go_at_call 32; refine (rMay_calls _ _ _ _).mono ?_; rintro e w1 ⟨rfl, hb⟩; obtain ⟨hc, hf⟩ := bcell hb; obtain ⟨z0, z1⟩ : w.heap.size < w1.heap.size ∧ w.heap.size + 1 < w1.heap.size := (by have hz_ := hb.size; (try simp at hz_); omega); (first | rw [H1.out] | rw [H2.out]); have n_ : Below w.heap.size w _ := below_seq (by repeat (first | exact HB | refine Below.setCell ?_ (by dsimp only; omega) _ | refine Below.alloc ?_ (by have hs_ := HB.size; first | (simp; done) | (simp; omega) | omega) _ | apply Below.drew)) hb; clear HB; have HB := n_; clear n_))
    have g1 : FBox w1 w.heap.size s k l := ⟨by go_simp, by go_simp, by go_simp⟩
    have g2 : FBox w1 (w.heap.size + 1) s2 k2 l2 := ⟨by go_simp, by go_simp, by go_simp⟩
    refine RW.start (fun w' => Below w.heap.size w w' ∧ FBox w' w.heap.size s k l ∧ FBox w' (w.heap.size + 1) s2 k2 l2) (by kernel_rfl) (by kernel_rfl) ⟨HB.drew, g1, g2⟩ ?_
    clear g1 g2 hc hf hb HB z0 z1
    repeat (first
      | (refine' RW.val (by rfl) ?_ ?_; rotate_left; (focus (intro w' hS; obtain ⟨HB, ⟨c0, c1, c2⟩, ⟨d0, d1, d2⟩⟩ := hS; go_simp; rfl)); simp only [Act.put, List.setIfInBounds_toArray, List.set_cons_zero, List.set_cons_succ])
      | (refine RW.off (by rfl) ?_; simp only [Act.put, List.setIfInBounds_toArray, List.set_cons_zero, List.set_cons_succ])
      | (refine' RW.call (by rfl) ?_ ?_ ?_
         rotate_left 3
         (focus (intro w' hS; obtain ⟨HB, ⟨c0, c1, c2⟩, ⟨d0, d1, d2⟩⟩ := hS; go_simp; exact ⟨rfl, rfl⟩))
         (focus
           intro w' hS
           obtain ⟨HB, ⟨c0, c1, c2⟩, ⟨d0, d1, d2⟩⟩ := hS
           first
             | (refine (rLong_calls _ _ _ _).mono ?_; rintro e w1 ⟨rfl, hb⟩; exact ⟨rfl, ⟨(below_seq HB hb), ⟨(cell_below (B := 0) hb c0), (cell_below (B := 0) hb c1), (cell_below (B := 0) hb c2)⟩, ⟨(cell_below (B := 0) hb d0), (cell_below (B := 0) hb d1), (cell_below (B := 0) hb d2)⟩⟩⟩))
         simp only [Act.put, List.setIfInBounds_toArray, List.set_cons_zero, List.set_cons_succ]))
    refine RW.done (fun w' hS => ?_)
    obtain ⟨HB, ⟨c0, c1, c2⟩, ⟨d0, d1, d2⟩⟩ := hS
    go_wp2_with fail
    all_goals
      go_ret
      refine ⟨ret_bool ?_, HB⟩
      clear HB c0 c1 c2 d0 d1 d2
      try simp only [beq_iff_eq, beq_eq_false_iff_ne, ne_eq] at *
      unfold refB
      generalize longZ k l = x at *
      generalize longZ k2 l2 = y at *
      clear H1 H2
      grind (splits := 30)
  · have hcf : castsB k l k2 l2 = false := by
      rw [castsB, if_pos]
      by_cases h1 : m1 = true
      · have h2 : m2 = false := by cases m2 <;> simp_all
        exact .inr (by rw [longZ, hm2, h2]; rfl)
      · have h1 : m1 = false := by simpa using h1
        exact .inl (by rw [longZ, hm1, h1]; rfl)
    rw [hcf]
    have hb' : m1 = false ∨ (m1 = true ∧ m2 = false) := by cases m1 <;> cases m2 <;> simp_all
    clear hm1 hm2 hcf hb
    rcases hb' with rfl | ⟨rfl, rfl⟩
    all_goals
      go_enter Try.func15, Try.ntmps15
      go_wp2_with (first
        | (go_at_call 32; refine (rMay_calls _ _ _ _).mono ?_; rintro e w1 ⟨rfl, hb⟩; obtain ⟨hc, hf⟩ := bcell hb; obtain ⟨z0, z1⟩ : w.heap.size < w1.heap.size ∧ w.heap.size + 1 < w1.heap.size := (by have hz_ := hb.size; (try simp at hz_); omega); (first | rw [H1.out] | rw [H2.out]); have n_ : Below w.heap.size w _ := below_seq (by repeat (first | exact HB | refine Below.setCell ?_ (by dsimp only; omega) _ | refine Below.alloc ?_ (by have hs_ := HB.size; first | (simp; done) | (simp; omega) | omega) _ | apply Below.drew)) hb; clear HB; have HB := n_; clear n_))
      go_ret
      exact ⟨ret_bool rfl, HB⟩
end Go.Proofs.Ytefbogpobejoeaa
