/- Layer 5 of the heap, kinds: which fields may be, how long they are, which values are right. -/
import Derived.Test.YtepfabijmhhhcaaKc
import Derived.Test.YtepfabijmhhhcaaRg
set_option linter.unusedSimpArgs false
set_option linter.unusedVariables false
namespace Go.Proofs.Ytepfabijmhhhcaa
open Go.RowKit

/-- a field in memory, a value in memory -/
def FBox (w : World) (b : Nat) (s : ByteArray) (k l : Int) : Prop := w.cell? ⟨b, 0, none⟩ = some (.string s) ∧ w.cell? ⟨b, 1, none⟩ = some (.int .i64 k) ∧ w.cell? ⟨b, 2, none⟩ = some (.int .i64 l)
def VBox (w : World) (b : Nat) (k x : Int) (t : ByteArray) : Prop := w.cell? ⟨b, 0, none⟩ = some (.int .i64 k) ∧ w.cell? ⟨b, 1, none⟩ = some (.int .u64 x) ∧ w.cell? ⟨b, 2, none⟩ = some (.string t)
theorem FBox.below {w w1 : World} {b : Nat} {s : ByteArray} {k l : Int} (h : FBox w b s k l) (hb : Below w.heap.size w w1) : FBox w1 b s k l := ⟨cell_below (B := 0) hb h.1, cell_below (B := 0) hb h.2.1, cell_below (B := 0) hb h.2.2⟩
theorem VBox.below {w w1 : World} {b : Nat} {k x : Int} {t : ByteArray} (h : VBox w b k x t) (hb : Below w.heap.size w w1) : VBox w1 b k x t := ⟨cell_below (B := 0) hb h.1, cell_below (B := 0) hb h.2.1, cell_below (B := 0) hb h.2.2⟩
theorem FBox.new (w : World) (s : ByteArray) (k l : Int) : FBox (w.alloc (.cells #[.string s, .int .i64 k, .int .i64 l] 40)) w.heap.size s k l := ⟨cell_new _ _ _ _ _ rfl, cell_new _ _ _ _ _ rfl, cell_new _ _ _ _ _ rfl⟩
theorem VBox.new (w : World) (k x : Int) (t : ByteArray) : VBox (w.alloc (.cells #[.int .i64 k, .int .u64 x, .string t] 37)) w.heap.size k x t := ⟨cell_new _ _ _ _ _ rfl, cell_new _ _ _ _ _ rfl, cell_new _ _ _ _ _ rfl⟩
theorem FBox.alloc {w : World} {b : Nat} {s : ByteArray} {k l : Int} (h : FBox w b s k l) (o : Obj) : FBox (w.alloc o) b s k l := h.below (below_new o)
theorem VBox.alloc {w : World} {b : Nat} {k x : Int} {t : ByteArray} (h : VBox w b k x t) (o : Obj) : VBox (w.alloc o) b k x t := h.below (below_new o)

/-- may a field be -/
def mayB (k l : Int) : Bool := if k = 12 then btw 1 l 64 else decide (0 < sizeZ k) && decide (l = 0)
def longZ (k l : Int) : Int := if mayB k l = true then (if k = 12 then l else sizeZ k) else 0

theorem may_calls (s : ByteArray) (k l : Int) (w : World) : Calls Try.prog 52 #[.agg #[.string s, .int .i64 k, .int .i64 l]] w fun e w' => e = .returned (.bool (mayB k l)) ∧ Below w.heap.size w w' := by
  by_cases hk : k = 12
  · subst hk
    go_enter Try.func52, Try.ntmps52
    go_wp2
    all_goals
      go_ret
      exact ⟨ret_bool (by rw [Bool.eq_iff_iff]; simp [mayB, btw]; try omega), below_new _⟩
  · go_enter Try.func52, Try.ntmps52
    go_wp2_with (go_at_call 53; refine (Size_calls _ _).mono ?_; rintro e w' ⟨rfl, rfl⟩)
    all_goals
      go_ret
      exact ⟨ret_bool (by rw [Bool.eq_iff_iff]; simp [mayB, hk]; try omega), below_new _⟩

theorem Long_calls (s : ByteArray) (k l : Int) (w : World) : Calls Try.prog 37 #[.agg #[.string s, .int .i64 k, .int .i64 l]] w fun e w' => e = .returned (.int .i64 (longZ k l)) ∧ Below w.heap.size w w' := by
  by_cases hm : mayB k l = true
  · have hkk : k = 12 ∨ ¬ k = 12 := by omega
    rcases hkk with rfl | hk
    all_goals
      go_enter Try.func37, Try.ntmps37
      go_wp2_with (first | (go_at_call 53; refine (Size_calls _ _).mono ?_; rintro e w' ⟨rfl, rfl⟩) | (go_at_call 52; refine (may_calls _ _ _ _).mono ?_; rintro e w1 ⟨rfl, hb⟩; obtain ⟨hc, hf⟩ := bcell hb))
      go_ret
      exact ⟨ret_int (by simp [longZ, *]), below_seq (below_new _) hb⟩
  · rw [Bool.not_eq_true] at hm
    go_enter Try.func37, Try.ntmps37
    go_wp2_with (first | (go_at_call 52; refine (may_calls _ _ _ _).mono ?_; rintro e w1 ⟨rfl, hb⟩; obtain ⟨hc, hf⟩ := bcell hb))
    go_ret
    exact ⟨ret_int (by simp [longZ, hm]), below_seq (below_new _) hb⟩

theorem Fits_is (n width : Int) (s : Bool) (h0 : 0 ≤ n) (h1 : n < 18446744073709551616) (r : Bool) (h : fitsB n width s = r) (w : World) : Calls Try.prog 67 #[.int .u64 n, .int .i64 width, .bool s] w fun e w' => e = .returned (.bool r) ∧ w = w' := h ▸ Fits_calls n width s h0 h1 w
/-- do a value's bits fit -/
def fitB (bits k l : Int) : Bool := if k = 12 then decide (bits = 0) else if k = 9 then decide (bits ≤ 1) else fitsB bits (longZ k l) (btw 5 k 8) || decide (k = 10) || decide (k = 11)

theorem fits_calls (pf pv : Nat) (s : ByteArray) (k l bits : Int) (h0 : 0 ≤ bits) (h1 : bits < 18446744073709551616) (w : World) (c0 : w.cell? ⟨pf, 0, none⟩ = some (.string s)) (c1 : w.cell? ⟨pf, 1, none⟩ = some (.int .i64 k)) (c2 : w.cell? ⟨pf, 2, none⟩ = some (.int .i64 l))
    (d1 : w.cell? ⟨pv, 1, none⟩ = some (.int .u64 bits)) :
    Calls Try.prog 66 #[.pointer (some ⟨pf, 0, none⟩), .pointer (some ⟨pv, 0, none⟩)] w fun e w' => e = .returned (.bool (fitB bits k l)) ∧ Below w.heap.size w w' := by
  by_cases hk : k = 12
  · subst hk
    go_enter Try.func66, Try.ntmps66
    go_wp2
    go_ret
    exact ⟨ret_bool (by rw [Bool.eq_iff_iff]; simp [fitB]), Below.refl _ _⟩
  · by_cases hk9 : k = 9
    · subst hk9
      go_enter Try.func66, Try.ntmps66
      go_wp2
      go_ret
      exact ⟨ret_bool (by rw [Bool.eq_iff_iff]; simp [fitB]), Below.refl _ _⟩
    · have hk12' : (k == 12) = false := by simpa using hk
      have hk9' : (k == 9) = false := by simpa using hk9
      have f0 := blk_lt_of c0
      have f1 := blk_lt_of d1
      obtain ⟨r, hr⟩ : ∃ r, fitsB bits (longZ k l) (btw 5 k 8) = r := ⟨_, rfl⟩
      obtain ⟨q, hq⟩ : ∃ q, (k == 10) = q := ⟨_, rfl⟩
      have H := Lib.hid hr
      clear hr
      cases r <;> cases q
      all_goals
        go_enter Try.func66, Try.ntmps66
        go_wp2
        refine RW.start (fun w' => Below w.heap.size w w' ∧ w'.cell? ⟨pf, 0, none⟩ = some (.string s) ∧ w'.cell? ⟨pf, 1, none⟩ = some (.int .i64 k) ∧ w'.cell? ⟨pf, 2, none⟩ = some (.int .i64 l) ∧ w'.cell? ⟨pv, 1, none⟩ = some (.int .u64 bits)) (by kernel_rfl) (by kernel_rfl) ⟨(Below.refl _ _).drew, c0, c1, c2, d1⟩ ?_
        clear c0 c1 c2 d1
        repeat (first
          | (refine' RW.val (by rfl) ?_ ?_; rotate_left; (focus (intro w' hS; obtain ⟨hB, c0, c1, c2, d1⟩ := hS; go_simp; rfl)); simp only [Act.put, List.setIfInBounds_toArray, List.set_cons_zero, List.set_cons_succ])
          | (refine RW.off (by rfl) ?_; simp only [Act.put, List.setIfInBounds_toArray, List.set_cons_zero, List.set_cons_succ])
          | (refine' RW.call (by rfl) ?_ ?_ ?_
             rotate_left 3
             (focus (intro w' hS; obtain ⟨hB, c0, c1, c2, d1⟩ := hS; go_simp; exact ⟨rfl, rfl⟩))
             (focus
               intro w' hS
               obtain ⟨hB, c0, c1, c2, d1⟩ := hS
               first
                 | (refine (Long_calls _ _ _ _).mono ?_; rintro e w1 ⟨rfl, hb⟩; exact ⟨rfl, ⟨(below_seq hB hb), (cell_below (B := 0) hb c0), (cell_below (B := 0) hb c1), (cell_below (B := 0) hb c2), (cell_below (B := 0) hb d1)⟩⟩)
                 | (refine (signed_calls _ _).mono ?_; rintro e w1 ⟨rfl, rfl⟩; exact ⟨rfl, hB, c0, c1, c2, d1⟩)
                 | (refine (Fits_is _ _ _ h0 h1 _ H.out _).mono ?_; rintro e w1 ⟨rfl, rfl⟩; exact ⟨rfl, hB, c0, c1, c2, d1⟩))
             simp only [Act.put, List.setIfInBounds_toArray, List.set_cons_zero, List.set_cons_succ]))
        refine RW.done (fun w' hS => ?_)
        obtain ⟨hB, c0, c1, c2, d1⟩ := hS
        go_wp2
        go_ret
        refine ⟨ret_bool ?_, hB⟩
        rw [fitB, if_neg hk, if_neg hk9, H.out, Bool.eq_iff_iff]
        simp at hq
        simp [hq]
end Go.Proofs.Ytepfabijmhhhcaa
