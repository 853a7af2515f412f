/- Layer 5 of the heap, kinds, second part: right values, zero values, and which casts may be. -/
import Derived.Test.YtefbogpobejoeaaKd
set_option linter.unusedSimpArgs false
set_option linter.unusedVariables false
namespace Go.Proofs.Ytefbogpobejoeaa
open Go.RowKit

/-- is a value right -/
def rightB (vk bits : Int) (tx : ByteArray) (k l : Int) : Bool := mayB k l && decide (vk = k) && decide ((tx.size : Int) = if k = 12 then l else 0) && fitB bits k l

theorem may_is (s : ByteArray) (k l : Int) (r : Bool) (h : mayB k l = r) (w : World) : Calls Try.prog 35 #[.agg #[.string s, .int .i64 k, .int .i64 l]] w fun e w' => e = .returned (.bool r) ∧ Below w.heap.size w w' := h ▸ may_calls s k l w

theorem Right_calls (vk bits : Int) (tx s : ByteArray) (k l : Int) (h0 : 0 ≤ bits) (h1 : bits < 18446744073709551616) (w : World) :
    Calls Try.prog 16 #[.agg #[.int .i64 vk, .int .u64 bits, .string tx], .agg #[.string s, .int .i64 k, .int .i64 l]] w fun e w' => e = .returned (.bool (rightB vk bits tx k l)) ∧ Below w.heap.size w w' := by
  have hmf : ∀ (fn : Fn) (first cap : Array Value) (w : World), (Instr.makeFunc fn first cap).run Try.prog w = .ok (.func fn first cap) w := fun _ _ _ _ => rfl
  obtain ⟨r, hr⟩ : ∃ r, mayB k l = r := ⟨_, rfl⟩
  have H := Lib.hid hr
  clear hr
  cases r
  · go_enter Try.func16, Try.ntmps16
    go_wp2_with (first | (go_at_call 35; refine (may_is _ _ _ _ H.out _).mono ?_; rintro e w1 ⟨rfl, hb⟩; obtain ⟨hc, hf⟩ := bcell hb))
    all_goals
      go_ret
      refine ⟨ret_bool (by simp [rightB, H.out]), ?_⟩
      exact below_seq ((below_new _).alloc (by simp) _) hb
  · go_enter Try.func16, Try.ntmps16
    go_wp2_with (first | (go_at_call 35; refine (may_is _ _ _ _ H.out _).mono ?_; rintro e w1 ⟨rfl, hb⟩; obtain ⟨hc, hf⟩ := bcell hb) | (go_at_call 33; refine (fits_calls _ _ s k l bits h0 h1 _ (by rw [hc _ _ (by simp)]; simp [go_sem]) (by rw [hc _ _ (by simp)]; simp [go_sem]) (by rw [hc _ _ (by simp)]; simp [go_sem]) (by rw [hc _ _ (by simp; omega)]; simp [go_sem])).mono ?_; rintro e w2 ⟨rfl, hb2⟩))
    all_goals
      go_ret
      refine ⟨ret_bool (by rw [rightB, H.out]; simp only [beq_iff_eq, beq_eq_false_iff_ne, ne_eq] at *; first | (simp [*]; done) | grind), ?_⟩
      first | exact below_seq (below_seq ((below_new _).alloc (by simp) _) hb) hb2 | exact below_seq ((below_new _).alloc (by simp) _) hb

theorem Right_is (vk bits : Int) (tx s : ByteArray) (k l : Int) (h0 : 0 ≤ bits) (h1 : bits < 18446744073709551616) (r : Bool) (h : rightB vk bits tx k l = r) (w : World) :
    Calls Try.prog 16 #[.agg #[.int .i64 vk, .int .u64 bits, .string tx], .agg #[.string s, .int .i64 k, .int .i64 l]] w fun e w' => e = .returned (.bool r) ∧ Below w.heap.size w w' := h ▸ Right_calls vk bits tx s k l h0 h1 w
theorem Long_is (s : ByteArray) (k l : Int) (r : Int) (h : longZ k l = r) (w : World) : Calls Try.prog 21 #[.agg #[.string s, .int .i64 k, .int .i64 l]] w fun e w' => e = .returned (.int .i64 r) ∧ Below w.heap.size w w' := h ▸ Long_calls s k l w

/-- which field may turn into which -/
def castsB (k l k2 l2 : Int) : Bool :=
  if longZ k l = 0 ∨ longZ k2 l2 = 0 then false
  else if k = k2 then true
  else if k = 9 then btw 1 k2 4 || (btw 5 k2 8 && decide (longZ k l < longZ k2 l2))
  else if btw 1 k 4 = true then (btw 1 k2 8 && decide (longZ k l < longZ k2 l2)) || decide (k2 = 10)
  else if btw 5 k 8 = true then (btw 5 k2 8 && decide (longZ k l < longZ k2 l2)) || decide (k2 = 10)
  else decide (k = 10) && decide (k2 = 8)

theorem Casts_calls (s s2 : ByteArray) (k l k2 l2 : Int) (w : World) : Calls Try.prog 14 #[.agg #[.string s, .int .i64 k, .int .i64 l], .agg #[.string s2, .int .i64 k2, .int .i64 l2]] w fun e w' => e = .returned (.bool (castsB k l k2 l2)) ∧ Below w.heap.size w w' := by
  go_enter Try.func14, Try.ntmps14
  go_wp2_with (first | (go_at_call 29; refine (plain_calls _ _).mono ?_; rintro e w' ⟨rfl, rfl⟩) | (go_at_call 30; refine (signed_calls _ _).mono ?_; rintro e w' ⟨rfl, rfl⟩) | (go_at_call 21; refine (Long_calls _ _ _ _).mono ?_; rintro e w1 ⟨rfl, hb⟩; obtain ⟨hc, hf⟩ := bcell hb))
  obtain ⟨W, hW⟩ : ∃ W : World, W = (w.alloc (.cells #[.string s, .int .i64 k, .int .i64 l] 26)).alloc (.cells #[.string s2, .int .i64 k2, .int .i64 l2] 26) := ⟨_, rfl⟩
  have hBW : Below w.heap.size w W := hW ▸ (below_new _).alloc (by simp) _
  have b1 : FBox W w.heap.size s k l := hW ▸ (FBox.new w s k l).alloc _
  have b2 : FBox W (w.heap.size + 1) s2 k2 l2 := hW ▸ (by simpa using FBox.new (w.alloc (.cells #[.string s, .int .i64 k, .int .i64 l] 26)) s2 k2 l2)
  rw [← hW]
  clear hW
  refine RW.start (fun w' => Below w.heap.size w w' ∧ FBox w' w.heap.size s k l ∧ FBox w' (w.heap.size + 1) s2 k2 l2) (by kernel_rfl) (by kernel_rfl) ⟨hBW.drew, b1, b2⟩ ?_
  clear b1 b2 hBW
  repeat (first
    | (refine' RW.val (by rfl) ?_ ?_; rotate_left; (focus (intro w' hS; obtain ⟨hB, ⟨c0, c1, c2⟩, ⟨d0, d1, d2⟩⟩ := hS; go_simp; rfl)); simp only [Act.put, List.setIfInBounds_toArray, List.set_cons_zero, List.set_cons_succ])
    | (refine RW.off (by rfl) ?_; simp only [Act.put, List.setIfInBounds_toArray, List.set_cons_zero, List.set_cons_succ])
    | (refine' RW.call (by rfl) ?_ ?_ ?_
       rotate_left 3
       (focus (intro w' hS; obtain ⟨hB, ⟨c0, c1, c2⟩, ⟨d0, d1, d2⟩⟩ := hS; go_simp; exact ⟨rfl, rfl⟩))
       (focus
         intro w' hS
         obtain ⟨hB, ⟨c0, c1, c2⟩, ⟨d0, d1, d2⟩⟩ := hS
         first
           | (refine (Long_calls _ _ _ _).mono ?_; rintro e w1 ⟨rfl, hb⟩; exact ⟨rfl, ⟨(below_seq hB hb), ⟨(cell_below (B := 0) hb c0), (cell_below (B := 0) hb c1), (cell_below (B := 0) hb c2)⟩, ⟨(cell_below (B := 0) hb d0), (cell_below (B := 0) hb d1), (cell_below (B := 0) hb d2)⟩⟩⟩))
       simp only [Act.put, List.setIfInBounds_toArray, List.set_cons_zero, List.set_cons_succ]))
  refine RW.done (fun w' hS => ?_)
  obtain ⟨hB, ⟨c0, c1, c2⟩, ⟨d0, d1, d2⟩⟩ := hS
  go_wp2_with fail
  refine RW.start (fun w' => Below w.heap.size w w' ∧ FBox w' w.heap.size s k l ∧ FBox w' (w.heap.size + 1) s2 k2 l2) (by kernel_rfl) (by kernel_rfl) ⟨hB.drew, ⟨c0, c1, c2⟩, ⟨d0, d1, d2⟩⟩ ?_
  clear c0 c1 c2 d0 d1 d2 hB w'
  repeat (first
    | (refine' RW.val (by rfl) ?_ ?_; rotate_left; (focus (intro w' hS; obtain ⟨hB, ⟨c0, c1, c2⟩, ⟨d0, d1, d2⟩⟩ := hS; go_simp; rfl)); simp only [Act.put, List.setIfInBounds_toArray, List.set_cons_zero, List.set_cons_succ])
    | (refine RW.off (by rfl) ?_; simp only [Act.put, List.setIfInBounds_toArray, List.set_cons_zero, List.set_cons_succ]))
  refine RW.done (fun w' hS => ?_)
  obtain ⟨hB, ⟨c0, c1, c2⟩, ⟨d0, d1, d2⟩⟩ := hS
  clear c0 c1 c2 d0 d1 d2
  go_wp2_with (first | (go_at_call 29; refine (plain_calls _ _).mono ?_; rintro e w' ⟨rfl, rfl⟩) | (go_at_call 30; refine (signed_calls _ _).mono ?_; rintro e w' ⟨rfl, rfl⟩))
  all_goals
    go_ret
    refine ⟨ret_bool ?_, hB⟩
    clear hB
    try simp only [beq_iff_eq, beq_eq_false_iff_ne, ne_eq] at *
    rw [Bool.eq_iff_iff]
    try simp only [castsB, btw, decide_eq_true_eq, decide_eq_false_iff_not] at *
    grind
end Go.Proofs.Ytefbogpobejoeaa
