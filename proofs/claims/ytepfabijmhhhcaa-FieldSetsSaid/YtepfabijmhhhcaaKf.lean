/- Layer 5 of the heap, kinds, third part: zero values, bytes of values. -/
import Derived.Test.YtepfabijmhhhcaaKe
set_option linter.unusedSimpArgs false
set_option linter.unusedVariables false
namespace Go.Proofs.Ytepfabijmhhhcaa
open Go.RowKit

theorem mayB_12 {l : Int} : mayB 12 l = btw 1 l 64 := by simp [mayB]
theorem mayB_of {k l : Int} (h : mayB k l = true) (hk : ¬ k = 12) : l = 0 ∧ 0 < sizeZ k := by
  simp [mayB, hk] at h; omega

def zeroL (k l : Int) : ByteArray := if k = 12 then strL (List.replicate l.toNat 0) else ⟨#[]⟩

/-- the zero value of a field -/
def zeroV (k l : Int) : Value := if mayB k l = true then .agg #[.int .i64 k, .int .u64 0, .string (zeroL k l)] else .agg #[.int .i64 0, .int .u64 0, .string ⟨#[]⟩]
/-- the bytes of a right value -/
def encL (bits : Int) (tx : ByteArray) (k l : Int) : List UInt8 := if k = 12 then bl tx else leL bits (longZ k l).toNat
theorem Encode_none (vk bits : Int) (tx s : ByteArray) (k l : Int) (h0 : 0 ≤ bits) (h1 : bits < 18446744073709551616) (h : rightB vk bits tx k l = false) (w : World) :
    Calls Try.prog 45 #[.agg #[.int .i64 vk, .int .u64 bits, .string tx], .agg #[.string s, .int .i64 k, .int .i64 l]] w fun e w' => e = .returned (.tuple #[.slice none 0 0, .int .i64 50]) ∧ Below w.heap.size w w' := by
  have H := Lib.hid h
  clear h
  go_enter Try.func45, Try.ntmps45
  go_wp2_with (first | (go_at_call 56; refine (Right_is _ _ _ _ _ _ h0 h1 _ H.out _).mono ?_; rintro e w1 ⟨rfl, hb⟩))
  go_ret2
  exact ⟨rfl, below_seq ((below_new _).alloc (by simp) _) hb⟩

theorem long_cases {k l : Int} (h : mayB k l = true) (hk : ¬ k = 12) : longZ k l = 1 ∨ longZ k l = 2 ∨ longZ k l = 4 ∨ longZ k l = 8 := by
  have h2 := (mayB_of h hk).2
  rw [longZ, if_pos h, if_neg hk]
  unfold sizeZ at h2 ⊢
  split <;> (try split) <;> (try split) <;> (try split) <;> simp_all
theorem long_12 {l : Int} (h : mayB 12 l = true) : longZ 12 l = l := by simp [longZ, h]
theorem right_may {vk bits : Int} {tx : ByteArray} {k l : Int} (h : rightB vk bits tx k l = true) : mayB k l = true ∧ vk = k ∧ ((tx.size : Int) = if k = 12 then l else 0) ∧ fitB bits k l = true := by
  simp only [rightB, Bool.and_eq_true, decide_eq_true_eq] at h
  exact ⟨h.1.1.1, h.1.1.2, h.1.2, h.2⟩

theorem Encode_some (vk bits : Int) (tx s : ByteArray) (k l : Int) (h0 : 0 ≤ bits) (h1 : bits < 18446744073709551616) (h : rightB vk bits tx k l = true) (w : World) :
    Calls Try.prog 45 #[.agg #[.int .i64 vk, .int .u64 bits, .string tx], .agg #[.string s, .int .i64 k, .int .i64 l]] w fun e w' => ∃ v, e = .returned (.tuple #[v, .int .i64 0]) ∧ OutB w' v (encL bits tx k l) ∧ Below w.heap.size w w' := by
  have H := Lib.hid h
  have hm := (right_may h).1
  clear h
  by_cases hk : k = 12
  · subst hk
    have hcb := conv_bytes tx
    clear hm
    go_enter Try.func45, Try.ntmps45
    go_wp2_with (first | (go_at_call 56; refine (Right_is _ _ _ _ _ _ h0 h1 _ H.out _).mono ?_; rintro e w1 ⟨rfl, hb⟩; obtain ⟨hc, hf⟩ := bcell hb))
    go_ret2
    refine ⟨.slice (some ⟨w1.heap.size, 0, none⟩) tx.size (grownCap w1 tx.size 0 5), rfl, ⟨_, _, by rw [encL, if_pos rfl, bl_length], ?_, ?_⟩, ?_⟩
    · rw [encL, if_pos rfl, bl_length]; exact grownCap_ge ..
    · rw [encL, if_pos rfl]; exact bytesWorld_rd _ _ _
    · exact below_seq (below_seq ((below_new _).alloc (by simp) _) hb) (bytesWorld_below _ _ _)
  · have hlc := long_cases hm hk
    have hk' : (k == 12) = false := by simpa using hk
    obtain ⟨n, hn⟩ : ∃ n : Nat, longZ k l = n := ⟨(longZ k l).toNat, by omega⟩
    have hn8 : n ≤ 8 := by omega
    have HN := Lib.hid hn
    clear hn hlc hm
    go_enter Try.func45, Try.ntmps45
    go_wp2_with (first
      | (go_at_call 56; refine (Right_is _ _ _ _ _ _ h0 h1 _ H.out _).mono ?_; rintro e w1 ⟨rfl, hb⟩; obtain ⟨hc, hf⟩ := bcell hb; obtain ⟨z0, z1⟩ : w.heap.size < w1.heap.size ∧ w.heap.size + 1 < w1.heap.size := by (have := hb.size; simp at this; omega))
      | (go_at_call 59; refine (Put_some bits 8 (by omega) (by simp [fitsB, widthB, topZ]; omega) h0 h1 _).mono ?_; rintro e w2 ⟨v, rfl, hown, hb2⟩; obtain ⟨A, c, rfl, hlen, _, hrd⟩ := own_rd hown; obtain ⟨hc2, hf2⟩ := bcell hb2; clear hown)
      | (go_at_call 37; refine (Long_is _ _ _ _ HN.out _).mono ?_; rintro e w3 ⟨rfl, hb3⟩))
    go_ret2
    have hlt : (leL bits 8).take n = leL bits n := by
      apply List.ext_getElem?
      intro j
      simp only [leL, List.getElem?_take, List.getElem?_map, List.getElem?_range']
      by_cases h : j < n
      · simp [h, show j < 8 by omega]
      · simp [h, List.getElem?_eq_none (show (List.range n).length ≤ j by simp; omega)]
    have hel : encL bits tx k l = leL bits n := by rw [encL, if_neg hk, HN.out]; rfl
    have hrd3 := (hrd.below hb3).take n
    rw [bytesV, ← List.map_take, hlt] at hrd3
    refine ⟨.slice A n c, rfl, ⟨A, c, by rw [hel, leL_length], by rw [hel, leL_length]; omega, by rw [hel]; exact hrd3⟩, ?_⟩
    exact below_seq (below_seq (below_seq ((below_new _).alloc (by simp) _) hb) hb2) hb3
end Go.Proofs.Ytepfabijmhhhcaa
