/- KindCasts, walked: it tells true. -/
import Derived.Test.YtefbogpobejoeaaWc
import Derived.Test.YtefbogpobejoeaaKt
import Derived.Deep.DeepCutAuto
set_option linter.unusedSimpArgs false
set_option linter.unusedVariables false
namespace Go.Proofs.Ytefbogpobejoeaa
open Go.RowKit

set_option maxHeartbeats 3200000 in
theorem KindCasts_no (vk bits : Int) (tx s : ByteArray) (k l : Int) (s2 : ByteArray) (k2 l2 : Int) (x0 : 0 ≤ bits) (x1 : bits < 18446744073709551616) (ht : decide ((1000 : Int) < (tx.size : Int)) = false) (q : Int) (hE : castE vk bits tx k l k2 l2 = q) (hq : (q != 0) = true) (w : World) :
    Calls Try.prog 3 #[.agg #[.int .i64 vk, .int .u64 bits, .string tx], .agg #[.string s, .int .i64 k, .int .i64 l], .agg #[.string s2, .int .i64 k2, .int .i64 l2]] w fun e w' => e = .returned (.bool true) ∧ Below w.heap.size w w' := by
  have HB : Below w.heap.size w (((w.alloc (.cells #[.int .i64 vk, .int .u64 bits, .string tx] 24)).alloc (.cells #[.string s, .int .i64 k, .int .i64 l] 26)).alloc (.cells #[.string s2, .int .i64 k2, .int .i64 l2] 26)) := ((below_new _).alloc (by simp) _).alloc (by simp; omega) _
  obtain ⟨a0, a1, a2, hV⟩ : ∃ a0 a1 a2, castV vk bits tx k l k2 l2 = .agg #[.int .i64 a0, .int .u64 a1, .string a2] := by
    unfold castV
    split
    · exact ⟨_, _, _, rfl⟩
    · exact ⟨_, _, _, rfl⟩
  obtain ⟨cb, hcb⟩ : ∃ cb, castsB k l k2 l2 = cb := ⟨_, rfl⟩
  have V := Lib.hid hV; have E := Lib.hid hE; have C := Lib.hid hcb
  clear hV hE hcb
  go_enter Try.func3, Try.ntmps3
  go_upto_region 5 with (first
    | (go_at_call 12; refine (Cast_calls _ _ _ _ _ _ _ _ _ x0 x1 _).mono ?_; rintro e w1 ⟨rfl, hb⟩; obtain ⟨hc, hf⟩ := bcell hb; obtain ⟨z0, z1, z2⟩ : w.heap.size < w1.heap.size ∧ w.heap.size + 1 < w1.heap.size ∧ w.heap.size + 1 + 1 < w1.heap.size := (by have hz_ := hb.size; (try simp at hz_); omega); rw [V.out, E.out]; have n_ : Below w.heap.size w _ := below_seq (by repeat (first | exact HB | refine Below.setCell ?_ (by dsimp only; omega) _ | refine Below.alloc ?_ (by have hs_ := HB.size; first | (simp; done) | (simp; omega) | omega) _ | apply Below.drew)) hb; clear HB; have HB := n_; clear n_)
    | (go_at_call 13; refine (rCast_calls _ _ _ _ _ _ _ _ _ x0 x1 _).mono ?_; rintro e w2 ⟨rfl, hb⟩; obtain ⟨hc2, hf2⟩ := bcell hb; obtain ⟨y0, y1, y2⟩ : w.heap.size < w2.heap.size ∧ w.heap.size + 1 < w2.heap.size ∧ w.heap.size + 1 + 1 < w2.heap.size := (by have hz_ := hb.size; (try simp at hz_); omega); have y3 : w1.heap.size < w2.heap.size := (by have hz_ := hb.size; (try simp at hz_); omega); rw [V.out, E.out]; have n_ : Below w.heap.size w _ := below_seq (by repeat (first | exact HB | refine Below.setCell ?_ (by dsimp only; omega) _ | refine Below.alloc ?_ (by have hs_ := HB.size; first | (simp; done) | (simp; omega) | omega) _ | apply Below.drew)) hb; clear HB; have HB := n_; clear n_))
  have HB0 : Below w.heap.size w (w2.alloc (.cells #[.int .i64 a0, .int .u64 a1, .string a2] 24)) := HB.alloc (by have := HB.size; omega) _
  have b1 : VBox (w2.alloc (.cells #[.int .i64 a0, .int .u64 a1, .string a2] 24)) w.heap.size vk bits tx := ⟨by go_simp, by go_simp, by go_simp⟩
  have b2 : FBox (w2.alloc (.cells #[.int .i64 a0, .int .u64 a1, .string a2] 24)) (w.heap.size + 1) s k l := ⟨by go_simp, by go_simp, by go_simp⟩
  have b3 : FBox (w2.alloc (.cells #[.int .i64 a0, .int .u64 a1, .string a2] 24)) (w.heap.size + 1 + 1) s2 k2 l2 := ⟨by go_simp, by go_simp, by go_simp⟩
  have b4 : VBox (w2.alloc (.cells #[.int .i64 a0, .int .u64 a1, .string a2] 24)) w1.heap.size a0 a1 a2 := ⟨by go_simp, by go_simp, by go_simp⟩
  have b5 : VBox (w2.alloc (.cells #[.int .i64 a0, .int .u64 a1, .string a2] 24)) w2.heap.size a0 a1 a2 := ⟨by go_simp, by go_simp, by go_simp⟩
  refine RW.start (fun w' => Below w.heap.size w w' ∧ VBox w' w.heap.size vk bits tx ∧ FBox w' (w.heap.size + 1) s k l ∧ FBox w' (w.heap.size + 1 + 1) s2 k2 l2 ∧ VBox w' w1.heap.size a0 a1 a2 ∧ VBox w' w2.heap.size a0 a1 a2) (by kernel_rfl) (by kernel_rfl) ⟨HB0.drew, b1, b2, b3, b4, b5⟩ ?_
  clear b1 b2 b3 b4 b5 HB0 HB hc hf hb hc2 hf2
  repeat (first
    | (refine' RW.val (by rfl) ?_ ?_; rotate_left; (focus (intro w' hS; obtain ⟨HB, ⟨c0, c1, c2⟩, ⟨d0, d1, d2⟩, ⟨e0, e1, e2⟩, ⟨f0, f1, f2⟩, ⟨g0, g1, g2⟩⟩ := hS; go_simp; rfl)); simp only [Act.put, List.setIfInBounds_toArray, List.set_cons_zero, List.set_cons_succ])
    | (refine RW.off (by rfl) ?_; simp only [Act.put, List.setIfInBounds_toArray, List.set_cons_zero, List.set_cons_succ])
    | (refine' RW.call (by rfl) ?_ ?_ ?_
       rotate_left 3
       (focus (intro w' hS; obtain ⟨HB, ⟨c0, c1, c2⟩, ⟨d0, d1, d2⟩, ⟨e0, e1, e2⟩, ⟨f0, f1, f2⟩, ⟨g0, g1, g2⟩⟩ := hS; go_simp; exact ⟨rfl, rfl⟩))
       (focus
         intro w' hS
         obtain ⟨HB, ⟨c0, c1, c2⟩, ⟨d0, d1, d2⟩, ⟨e0, e1, e2⟩, ⟨f0, f1, f2⟩, ⟨g0, g1, g2⟩⟩ := hS
         first
           | (refine (alive_calls _).mono ?_; rintro e w1 ⟨rfl, hb⟩; exact ⟨rfl, ⟨(below_seq HB hb), ⟨(cell_below (B := 0) hb c0), (cell_below (B := 0) hb c1), (cell_below (B := 0) hb c2)⟩, ⟨(cell_below (B := 0) hb d0), (cell_below (B := 0) hb d1), (cell_below (B := 0) hb d2)⟩, ⟨(cell_below (B := 0) hb e0), (cell_below (B := 0) hb e1), (cell_below (B := 0) hb e2)⟩, ⟨(cell_below (B := 0) hb f0), (cell_below (B := 0) hb f1), (cell_below (B := 0) hb f2)⟩, ⟨(cell_below (B := 0) hb g0), (cell_below (B := 0) hb g1), (cell_below (B := 0) hb g2)⟩⟩⟩)
           | (refine (Casts_is _ _ _ _ _ _ _ C.out _).mono ?_; rintro e w1 ⟨rfl, hb⟩; exact ⟨rfl, ⟨(below_seq HB hb), ⟨(cell_below (B := 0) hb c0), (cell_below (B := 0) hb c1), (cell_below (B := 0) hb c2)⟩, ⟨(cell_below (B := 0) hb d0), (cell_below (B := 0) hb d1), (cell_below (B := 0) hb d2)⟩, ⟨(cell_below (B := 0) hb e0), (cell_below (B := 0) hb e1), (cell_below (B := 0) hb e2)⟩, ⟨(cell_below (B := 0) hb f0), (cell_below (B := 0) hb f1), (cell_below (B := 0) hb f2)⟩, ⟨(cell_below (B := 0) hb g0), (cell_below (B := 0) hb g1), (cell_below (B := 0) hb g2)⟩⟩⟩)
           | (refine (rCasts_is _ _ _ _ _ _ _ C.out _).mono ?_; rintro e w1 ⟨rfl, hb⟩; exact ⟨rfl, ⟨(below_seq HB hb), ⟨(cell_below (B := 0) hb c0), (cell_below (B := 0) hb c1), (cell_below (B := 0) hb c2)⟩, ⟨(cell_below (B := 0) hb d0), (cell_below (B := 0) hb d1), (cell_below (B := 0) hb d2)⟩, ⟨(cell_below (B := 0) hb e0), (cell_below (B := 0) hb e1), (cell_below (B := 0) hb e2)⟩, ⟨(cell_below (B := 0) hb f0), (cell_below (B := 0) hb f1), (cell_below (B := 0) hb f2)⟩, ⟨(cell_below (B := 0) hb g0), (cell_below (B := 0) hb g1), (cell_below (B := 0) hb g2)⟩⟩⟩))
       simp only [Act.put, List.setIfInBounds_toArray, List.set_cons_zero, List.set_cons_succ]))
  refine RW.done (fun w' hS => ?_)
  obtain ⟨HB, ⟨c0, c1, c2⟩, ⟨d0, d1, d2⟩, ⟨e0, e1, e2⟩, ⟨f0, f1, f2⟩, ⟨g0, g1, g2⟩⟩ := hS
  go_wp2_with fail
  go_ret
  exact ⟨ret_bool (by simp), HB⟩

set_option maxHeartbeats 3200000 in
theorem KindCasts_ok (vk bits : Int) (tx s : ByteArray) (k l : Int) (s2 : ByteArray) (k2 l2 : Int) (x0 : 0 ≤ bits) (x1 : bits < 18446744073709551616) (ht : decide ((1000 : Int) < (tx.size : Int)) = false) (hr : rightB vk bits tx k l = true) (hcb : castsB k l k2 l2 = true) (w : World) :
    Calls Try.prog 3 #[.agg #[.int .i64 vk, .int .u64 bits, .string tx], .agg #[.string s, .int .i64 k, .int .i64 l], .agg #[.string s2, .int .i64 k2, .int .i64 l2]] w fun e w' => e = .returned (.bool true) ∧ Below w.heap.size w w' := by
  have HB : Below w.heap.size w (((w.alloc (.cells #[.int .i64 vk, .int .u64 bits, .string tx] 24)).alloc (.cells #[.string s, .int .i64 k, .int .i64 l] 26)).alloc (.cells #[.string s2, .int .i64 k2, .int .i64 l2] 26)) := ((below_new _).alloc (by simp) _).alloc (by simp; omega) _
  obtain ⟨r2, -⟩ := cast_right x0 x1 hr hcb
  obtain ⟨y0', y1'⟩ := castZ_bd bits k k2 x0 x1
  have hV : castV vk bits tx k l k2 l2 = .agg #[.int .i64 k2, .int .u64 (castZ bits k k2), .string (castT tx k2 l2)] := by rw [castV, if_pos ⟨hr, hcb⟩]
  have hE : castE vk bits tx k l k2 l2 = 0 := by rw [castE, if_pos hr, if_pos hcb]
  obtain ⟨a1, ha1⟩ : ∃ z, castZ bits k k2 = z := ⟨_, rfl⟩
  obtain ⟨a2, ha2⟩ : ∃ z, castT tx k2 l2 = z := ⟨_, rfl⟩
  rw [ha1, ha2] at hV r2
  rw [ha1] at y0' y1'
  have V := Lib.hid hV; have E := Lib.hid hE; have C := Lib.hid hcb; have R2 := Lib.hid r2
  clear hV hE hcb hr r2 ha1 ha2
  go_enter Try.func3, Try.ntmps3
  go_upto_region 5 with (first
    | (go_at_call 12; refine (Cast_calls _ _ _ _ _ _ _ _ _ x0 x1 _).mono ?_; rintro e w1 ⟨rfl, hb⟩; obtain ⟨hc, hf⟩ := bcell hb; obtain ⟨z0, z1, z2⟩ : w.heap.size < w1.heap.size ∧ w.heap.size + 1 < w1.heap.size ∧ w.heap.size + 1 + 1 < w1.heap.size := (by have hz_ := hb.size; (try simp at hz_); omega); rw [V.out, E.out]; have n_ : Below w.heap.size w _ := below_seq (by repeat (first | exact HB | refine Below.setCell ?_ (by dsimp only; omega) _ | refine Below.alloc ?_ (by have hs_ := HB.size; first | (simp; done) | (simp; omega) | omega) _ | apply Below.drew)) hb; clear HB; have HB := n_; clear n_)
    | (go_at_call 13; refine (rCast_calls _ _ _ _ _ _ _ _ _ x0 x1 _).mono ?_; rintro e w2 ⟨rfl, hb⟩; obtain ⟨hc2, hf2⟩ := bcell hb; obtain ⟨y0, y1, y2⟩ : w.heap.size < w2.heap.size ∧ w.heap.size + 1 < w2.heap.size ∧ w.heap.size + 1 + 1 < w2.heap.size := (by have hz_ := hb.size; (try simp at hz_); omega); have y3 : w1.heap.size < w2.heap.size := (by have hz_ := hb.size; (try simp at hz_); omega); rw [V.out, E.out]; have n_ : Below w.heap.size w _ := below_seq (by repeat (first | exact HB | refine Below.setCell ?_ (by dsimp only; omega) _ | refine Below.alloc ?_ (by have hs_ := HB.size; first | (simp; done) | (simp; omega) | omega) _ | apply Below.drew)) hb; clear HB; have HB := n_; clear n_))
  have HB0 : Below w.heap.size w (w2.alloc (.cells #[.int .i64 k2, .int .u64 a1, .string a2] 24)) := HB.alloc (by have := HB.size; omega) _
  have b1 : VBox (w2.alloc (.cells #[.int .i64 k2, .int .u64 a1, .string a2] 24)) w.heap.size vk bits tx := ⟨by go_simp, by go_simp, by go_simp⟩
  have b2 : FBox (w2.alloc (.cells #[.int .i64 k2, .int .u64 a1, .string a2] 24)) (w.heap.size + 1) s k l := ⟨by go_simp, by go_simp, by go_simp⟩
  have b3 : FBox (w2.alloc (.cells #[.int .i64 k2, .int .u64 a1, .string a2] 24)) (w.heap.size + 1 + 1) s2 k2 l2 := ⟨by go_simp, by go_simp, by go_simp⟩
  have b4 : VBox (w2.alloc (.cells #[.int .i64 k2, .int .u64 a1, .string a2] 24)) w1.heap.size k2 a1 a2 := ⟨by go_simp, by go_simp, by go_simp⟩
  have b5 : VBox (w2.alloc (.cells #[.int .i64 k2, .int .u64 a1, .string a2] 24)) w2.heap.size k2 a1 a2 := ⟨by go_simp, by go_simp, by go_simp⟩
  refine RW.start (fun w' => Below w.heap.size w w' ∧ VBox w' w.heap.size vk bits tx ∧ FBox w' (w.heap.size + 1) s k l ∧ FBox w' (w.heap.size + 1 + 1) s2 k2 l2 ∧ VBox w' w1.heap.size k2 a1 a2 ∧ VBox w' w2.heap.size k2 a1 a2) (by kernel_rfl) (by kernel_rfl) ⟨HB0.drew, b1, b2, b3, b4, b5⟩ ?_
  clear b1 b2 b3 b4 b5 HB0 HB hc hf hb hc2 hf2
  repeat (first
    | (refine' RW.val (by rfl) ?_ ?_; rotate_left; (focus (intro w' hS; obtain ⟨HB, ⟨c0, c1, c2⟩, ⟨d0, d1, d2⟩, ⟨e0, e1, e2⟩, ⟨f0, f1, f2⟩, ⟨g0, g1, g2⟩⟩ := hS; go_simp; rfl)); simp only [Act.put, List.setIfInBounds_toArray, List.set_cons_zero, List.set_cons_succ])
    | (refine RW.off (by rfl) ?_; simp only [Act.put, List.setIfInBounds_toArray, List.set_cons_zero, List.set_cons_succ])
    | (refine' RW.call (by rfl) ?_ ?_ ?_
       rotate_left 3
       (focus (intro w' hS; obtain ⟨HB, ⟨c0, c1, c2⟩, ⟨d0, d1, d2⟩, ⟨e0, e1, e2⟩, ⟨f0, f1, f2⟩, ⟨g0, g1, g2⟩⟩ := hS; go_simp; exact ⟨rfl, rfl⟩))
       (focus
         intro w' hS
         obtain ⟨HB, ⟨c0, c1, c2⟩, ⟨d0, d1, d2⟩, ⟨e0, e1, e2⟩, ⟨f0, f1, f2⟩, ⟨g0, g1, g2⟩⟩ := hS
         first
           | (refine (alive_calls _).mono ?_; rintro e w1 ⟨rfl, hb⟩; exact ⟨rfl, ⟨(below_seq HB hb), ⟨(cell_below (B := 0) hb c0), (cell_below (B := 0) hb c1), (cell_below (B := 0) hb c2)⟩, ⟨(cell_below (B := 0) hb d0), (cell_below (B := 0) hb d1), (cell_below (B := 0) hb d2)⟩, ⟨(cell_below (B := 0) hb e0), (cell_below (B := 0) hb e1), (cell_below (B := 0) hb e2)⟩, ⟨(cell_below (B := 0) hb f0), (cell_below (B := 0) hb f1), (cell_below (B := 0) hb f2)⟩, ⟨(cell_below (B := 0) hb g0), (cell_below (B := 0) hb g1), (cell_below (B := 0) hb g2)⟩⟩⟩)
           | (refine (Casts_is _ _ _ _ _ _ _ C.out _).mono ?_; rintro e w1 ⟨rfl, hb⟩; exact ⟨rfl, ⟨(below_seq HB hb), ⟨(cell_below (B := 0) hb c0), (cell_below (B := 0) hb c1), (cell_below (B := 0) hb c2)⟩, ⟨(cell_below (B := 0) hb d0), (cell_below (B := 0) hb d1), (cell_below (B := 0) hb d2)⟩, ⟨(cell_below (B := 0) hb e0), (cell_below (B := 0) hb e1), (cell_below (B := 0) hb e2)⟩, ⟨(cell_below (B := 0) hb f0), (cell_below (B := 0) hb f1), (cell_below (B := 0) hb f2)⟩, ⟨(cell_below (B := 0) hb g0), (cell_below (B := 0) hb g1), (cell_below (B := 0) hb g2)⟩⟩⟩)
           | (refine (rCasts_is _ _ _ _ _ _ _ C.out _).mono ?_; rintro e w1 ⟨rfl, hb⟩; exact ⟨rfl, ⟨(below_seq HB hb), ⟨(cell_below (B := 0) hb c0), (cell_below (B := 0) hb c1), (cell_below (B := 0) hb c2)⟩, ⟨(cell_below (B := 0) hb d0), (cell_below (B := 0) hb d1), (cell_below (B := 0) hb d2)⟩, ⟨(cell_below (B := 0) hb e0), (cell_below (B := 0) hb e1), (cell_below (B := 0) hb e2)⟩, ⟨(cell_below (B := 0) hb f0), (cell_below (B := 0) hb f1), (cell_below (B := 0) hb f2)⟩, ⟨(cell_below (B := 0) hb g0), (cell_below (B := 0) hb g1), (cell_below (B := 0) hb g2)⟩⟩⟩)
           | (refine (Right_is _ _ _ _ _ _ y0' y1' _ R2.out _).mono ?_; rintro e w1 ⟨rfl, hb⟩; exact ⟨rfl, ⟨(below_seq HB hb), ⟨(cell_below (B := 0) hb c0), (cell_below (B := 0) hb c1), (cell_below (B := 0) hb c2)⟩, ⟨(cell_below (B := 0) hb d0), (cell_below (B := 0) hb d1), (cell_below (B := 0) hb d2)⟩, ⟨(cell_below (B := 0) hb e0), (cell_below (B := 0) hb e1), (cell_below (B := 0) hb e2)⟩, ⟨(cell_below (B := 0) hb f0), (cell_below (B := 0) hb f1), (cell_below (B := 0) hb f2)⟩, ⟨(cell_below (B := 0) hb g0), (cell_below (B := 0) hb g1), (cell_below (B := 0) hb g2)⟩⟩⟩))
       simp only [Act.put, List.setIfInBounds_toArray, List.set_cons_zero, List.set_cons_succ]))
  refine RW.done (fun w' hS => ?_)
  obtain ⟨HB, ⟨c0, c1, c2⟩, ⟨d0, d1, d2⟩, ⟨e0, e1, e2⟩, ⟨f0, f1, f2⟩, ⟨g0, g1, g2⟩⟩ := hS
  go_wp2_with fail
  go_ret
  exact ⟨ret_bool (by simp), HB⟩

set_option maxHeartbeats 1600000 in
theorem KindCasts_calls (vk bits : Int) (tx s : ByteArray) (k l : Int) (s2 : ByteArray) (k2 l2 : Int) (v0 : -9223372036854775808 ≤ vk) (v1 : vk ≤ 9223372036854775807) (x0 : 0 ≤ bits) (x1 : bits < 18446744073709551616) (hs : tx.size ≤ maxLen)
    (k0 : -9223372036854775808 ≤ k) (k1 : k ≤ 9223372036854775807) (l0 : -9223372036854775808 ≤ l) (l1 : l ≤ 9223372036854775807) (hs1 : s.size ≤ maxLen)
    (k20 : -9223372036854775808 ≤ k2) (k21 : k2 ≤ 9223372036854775807) (l20 : -9223372036854775808 ≤ l2) (l21 : l2 ≤ 9223372036854775807) (hs2 : s2.size ≤ maxLen) (w : World) :
    Calls Try.prog 3 #[.agg #[.int .i64 vk, .int .u64 bits, .string tx], .agg #[.string s, .int .i64 k, .int .i64 l], .agg #[.string s2, .int .i64 k2, .int .i64 l2]] w fun e w' => e = .returned (.bool true) ∧ Below w.heap.size w w' := by
  clear v0 v1 k0 k1 l0 l1 hs1 k20 k21 l20 l21 hs2 hs
  by_cases hlen : 1000 < tx.size
  · have ht : decide ((1000 : Int) < (tx.size : Int)) = true := by simp; omega
    clear hlen
    have HB : Below w.heap.size w (((w.alloc (.cells #[.int .i64 vk, .int .u64 bits, .string tx] 24)).alloc (.cells #[.string s, .int .i64 k, .int .i64 l] 26)).alloc (.cells #[.string s2, .int .i64 k2, .int .i64 l2] 26)) := ((below_new _).alloc (by simp) _).alloc (by simp; omega) _
    go_enter Try.func3, Try.ntmps3
    go_wp2_with (first
      | (go_at_call 11; refine (alive_calls _).mono ?_; rintro e w4 ⟨rfl, hb⟩; have n_ : Below w.heap.size w _ := below_seq (by repeat (first | exact HB | refine Below.setCell ?_ (by dsimp only; omega) _ | refine Below.alloc ?_ (by have hs_ := HB.size; first | (simp; done) | (simp; omega) | omega) _ | apply Below.drew)) hb; clear HB; have HB := n_; clear n_))
    all_goals
      go_ret
      exact ⟨ret_bool rfl, HB⟩
  · have ht : decide ((1000 : Int) < (tx.size : Int)) = false := by simp; omega
    clear hlen
    by_cases hr : rightB vk bits tx k l = true
    · by_cases hc : castsB k l k2 l2 = true
      · exact KindCasts_ok vk bits tx s k l s2 k2 l2 x0 x1 ht hr hc w
      · exact KindCasts_no vk bits tx s k l s2 k2 l2 x0 x1 ht 51 (by rw [castE, if_pos hr, if_neg hc]) (by decide) w
    · exact KindCasts_no vk bits tx s k l s2 k2 l2 x0 x1 ht 50 (by rw [castE, if_neg hr]) (by decide) w
end Go.Proofs.Ytefbogpobejoeaa
