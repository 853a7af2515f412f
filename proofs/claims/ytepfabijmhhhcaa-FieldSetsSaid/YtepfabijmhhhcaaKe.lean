/- Layer 5 of the heap, kinds, second part: right values, zero values, and which casts may be. -/
import Derived.Test.YtepfabijmhhhcaaKd
set_option linter.unusedSimpArgs false
set_option linter.unusedVariables false
namespace Go.Proofs.Ytepfabijmhhhcaa
open Go.RowKit

/-- is a value right -/
def rightB (vk bits : Int) (tx : ByteArray) (k l : Int) : Bool := mayB k l && decide (vk = k) && decide ((tx.size : Int) = if k = 12 then l else 0) && fitB bits k l

theorem may_is (s : ByteArray) (k l : Int) (r : Bool) (h : mayB k l = r) (w : World) : Calls Try.prog 52 #[.agg #[.string s, .int .i64 k, .int .i64 l]] w fun e w' => e = .returned (.bool r) ∧ Below w.heap.size w w' := h ▸ may_calls s k l w

theorem Right_calls (vk bits : Int) (tx s : ByteArray) (k l : Int) (h0 : 0 ≤ bits) (h1 : bits < 18446744073709551616) (w : World) :
    Calls Try.prog 56 #[.agg #[.int .i64 vk, .int .u64 bits, .string tx], .agg #[.string s, .int .i64 k, .int .i64 l]] w fun e w' => e = .returned (.bool (rightB vk bits tx k l)) ∧ Below w.heap.size w w' := by
  have hmf : ∀ (fn : Fn) (first cap : Array Value) (w : World), (Instr.makeFunc fn first cap).run Try.prog w = .ok (.func fn first cap) w := fun _ _ _ _ => rfl
  obtain ⟨r, hr⟩ : ∃ r, mayB k l = r := ⟨_, rfl⟩
  have H := Lib.hid hr
  clear hr
  cases r
  · go_enter Try.func56, Try.ntmps56
    go_wp2_with (first | (go_at_call 52; refine (may_is _ _ _ _ H.out _).mono ?_; rintro e w1 ⟨rfl, hb⟩; obtain ⟨hc, hf⟩ := bcell hb))
    all_goals
      go_ret
      refine ⟨ret_bool (by simp [rightB, H.out]), ?_⟩
      exact below_seq ((below_new _).alloc (by simp) _) hb
  · go_enter Try.func56, Try.ntmps56
    go_wp2_with (first | (go_at_call 52; refine (may_is _ _ _ _ H.out _).mono ?_; rintro e w1 ⟨rfl, hb⟩; obtain ⟨hc, hf⟩ := bcell hb) | (go_at_call 66; refine (fits_calls _ _ s k l bits h0 h1 _ (by rw [hc _ _ (by simp)]; simp [go_sem]) (by rw [hc _ _ (by simp)]; simp [go_sem]) (by rw [hc _ _ (by simp)]; simp [go_sem]) (by rw [hc _ _ (by simp; omega)]; simp [go_sem])).mono ?_; rintro e w2 ⟨rfl, hb2⟩))
    all_goals
      go_ret
      refine ⟨ret_bool (by rw [rightB, H.out]; simp only [beq_iff_eq, beq_eq_false_iff_ne, ne_eq] at *; first | (simp [*]; done) | grind), ?_⟩
      first | exact below_seq (below_seq ((below_new _).alloc (by simp) _) hb) hb2 | exact below_seq ((below_new _).alloc (by simp) _) hb

theorem Right_is (vk bits : Int) (tx s : ByteArray) (k l : Int) (h0 : 0 ≤ bits) (h1 : bits < 18446744073709551616) (r : Bool) (h : rightB vk bits tx k l = r) (w : World) :
    Calls Try.prog 56 #[.agg #[.int .i64 vk, .int .u64 bits, .string tx], .agg #[.string s, .int .i64 k, .int .i64 l]] w fun e w' => e = .returned (.bool r) ∧ Below w.heap.size w w' := h ▸ Right_calls vk bits tx s k l h0 h1 w
theorem Long_is (s : ByteArray) (k l : Int) (r : Int) (h : longZ k l = r) (w : World) : Calls Try.prog 37 #[.agg #[.string s, .int .i64 k, .int .i64 l]] w fun e w' => e = .returned (.int .i64 r) ∧ Below w.heap.size w w' := h ▸ Long_calls s k l w

/-- which field may turn into which -/
def castsB (k l k2 l2 : Int) : Bool :=
  if longZ k l = 0 ∨ longZ k2 l2 = 0 then false
  else if k = k2 then true
  else if k = 9 then btw 1 k2 4 || (btw 5 k2 8 && decide (longZ k l < longZ k2 l2))
  else if btw 1 k 4 = true then (btw 1 k2 8 && decide (longZ k l < longZ k2 l2)) || decide (k2 = 10)
  else if btw 5 k 8 = true then (btw 5 k2 8 && decide (longZ k l < longZ k2 l2)) || decide (k2 = 10)
  else decide (k = 10) && decide (k2 = 8)

end Go.Proofs.Ytepfabijmhhhcaa
