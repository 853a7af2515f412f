/- Layer 5 of the heap, kinds, in plain words: what was written is read as it was; zero is right. -/
import Derived.Test.YtepfabijmhhhcaaKm
set_option linter.unusedSimpArgs false
set_option linter.unusedVariables false
namespace Go.Proofs.Ytepfabijmhhhcaa
open Go.RowKit

theorem enc_length {vk bits : Int} {tx : ByteArray} {k l : Int} (hr : rightB vk bits tx k l = true) : ((encL bits tx k l).length : Int) = longZ k l := by
  obtain ⟨hm, rfl, ht, hf⟩ := right_may hr
  unfold encL
  split
  · rename_i h
    subst h
    rw [long_12 hm, bl_length]
    simpa using ht
  · rename_i h
    rw [leL_length]
    have := long_cases hm h
    omega
theorem num_leL (m w : Nat) : numN (leL (m : Int) w) = m % 2 ^ (8 * w) := by
  induction w with
  | zero => simp [leL, numN, Nat.mod_one]
  | succ w ih =>
    rw [leL_succ, numN_append, leL_length, ih, byteZ_nat, Nat.mul_add, Nat.pow_add, Nat.mod_mul]
    have e : numN [UInt8.ofNat ((m / 2 ^ (8 * w) % 256 : Nat) : Int).toNat] = m / 2 ^ (8 * w) % 256 := by
      have hx : m / 2 ^ (8 * w) % 256 < 256 := Nat.mod_lt _ (by decide)
      generalize m / 2 ^ (8 * w) % 256 = x at hx ⊢
      rw [Int.toNat_natCast]
      simp [numN]; omega
    rw [e]
theorem num_enc (n : Int) (w : Nat) (h0 : 0 ≤ n) : numL (leL n w) = n % ((2 ^ (8 * w) : Nat) : Int) := by
  obtain ⟨m, rfl⟩ := Int.eq_ofNat_of_zero_le h0
  rw [numL, num_leL]; rfl
theorem sign_mod (n : Int) (w : Nat) (hw : widthB w = true) (h0 : 0 ≤ n) (h1 : n < 18446744073709551616) : signZ (n % ((2 ^ (8 * w) : Nat) : Int)) w = signZ n w := by
  have hc := width_cases hw
  rcases (by omega : w = 1 ∨ w = 2 ∨ w = 4 ∨ w = 8) with rfl | rfl | rfl | rfl
  · rw [show ((1 : Nat) : Int) = 1 from rfl, show ((2 ^ (8 * 1) : Nat) : Int) = 256 by decide, signZ_arith1 n h0 h1, signZ_arith1 _ (by omega) (by omega)]
    simp
  · rw [show ((2 : Nat) : Int) = 2 from rfl, show ((2 ^ (8 * 2) : Nat) : Int) = 65536 by decide, signZ_arith2 n h0 h1, signZ_arith2 _ (by omega) (by omega)]
    simp
  · rw [show ((4 : Nat) : Int) = 4 from rfl, show ((2 ^ (8 * 4) : Nat) : Int) = 4294967296 by decide, signZ_arith4 n h0 h1, signZ_arith4 _ (by omega) (by omega)]
    simp
  · rw [show ((8 : Nat) : Int) = 8 from rfl, show ((2 ^ (8 * 8) : Nat) : Int) = 18446744073709551616 by decide, Int.emod_eq_of_lt h0 h1]
theorem dec_enc {vk bits : Int} {tx : ByteArray} {k l : Int} (h0 : 0 ≤ bits) (h1 : bits < 18446744073709551616) (hr : rightB vk bits tx k l = true) :
    vk = k ∧ decZ (encL bits tx k l) k l = bits ∧ decT (encL bits tx k l) k = tx ∧ decB (encL bits tx k l) k l = true := by
  have hlen := enc_length hr
  obtain ⟨hm, rfl, ht, hf⟩ := right_may hr
  have key : decZ (encL bits tx vk l) vk l = bits ∧ decT (encL bits tx vk l) vk = tx := by
    by_cases hk : vk = 12
    · subst hk
      have hb : bits = 0 := by simpa [fitB] using hf
      subst hb
      refine ⟨by simp [decZ, rawZ, btw], ?_⟩
      rw [decT, encL, if_pos rfl, if_pos rfl, strL_bl]
    · have hlc := long_cases hm hk
      have htx : tx = ⟨#[]⟩ := by
        rw [if_neg hk] at ht
        have : tx.size = 0 := by omega
        obtain ⟨a⟩ := tx
        have : a = #[] := Array.eq_empty_of_size_eq_zero this
        rw [this]
      refine ⟨?_, by rw [decT, if_neg hk, htx]⟩
      have hwb : widthB (longZ vk l) = true := by simp [widthB]; omega
      obtain ⟨W, hW⟩ : ∃ W : Nat, longZ vk l = W := ⟨(longZ vk l).toNat, by omega⟩
      rw [hW] at hlc hwb hlen
      have he : encL bits tx vk l = leL bits W := by rw [encL, if_neg hk, hW]; rfl
      rw [he] at hlen ⊢
      have hraw : rawZ (leL bits W) vk l = bits % ((2 ^ (8 * W) : Nat) : Int) := by
        rw [rawZ, if_neg hk, leL_length, hW, if_pos ⟨rfl, hwb⟩, num_enc _ _ h0]
      rw [decZ, hraw, leL_length]
      rw [fitB, if_neg hk] at hf
      split
      · rename_i h5
        have h5' := btw_iff.1 h5
        rw [if_neg (by omega), hW, h5] at hf
        rw [sign_mod _ _ hwb h0 h1]
        simpa [fitsB, hwb, show ¬ vk = 10 by omega, show ¬ vk = 11 by omega] using hf
      · rename_i h5
        have h5 : btw 5 vk 8 = false := by simpa using h5
        have hlt : bits < ((2 ^ (8 * W) : Nat) : Int) := by
          split at hf
          · have : bits ≤ 1 := by simpa using hf
            rcases (by omega : W = 1 ∨ W = 2 ∨ W = 4 ∨ W = 8) with rfl | rfl | rfl | rfl <;> simp <;> omega
          · rw [hW, h5] at hf
            have hsz : vk = 10 ∨ vk = 11 → W = 8 := fun h => by
              have hW' := hW
              rw [longZ, if_pos hm, if_neg hk] at hW'
              rcases h with rfl | rfl
              · have : sizeZ 10 = 8 := by decide
                omega
              · have : sizeZ 11 = 8 := by decide
                omega
            simp only [fitsB, hwb, Bool.true_and, Bool.false_eq_true, if_false, Bool.or_eq_true, decide_eq_true_eq] at hf
            rcases (by omega : W = 1 ∨ W = 2 ∨ W = 4 ∨ W = 8) with rfl | rfl | rfl | rfl <;> simp [topZ] at hf ⊢ <;> omega
        exact Int.emod_eq_of_lt h0 hlt
  refine ⟨rfl, key.1, key.2, ?_⟩
  rw [decB, key.1, key.2, hr, hlen]
  simp
theorem enc_dec {l : List UInt8} {k long : Int} (h : decB l k long = true) : rightB k (decZ l k long) (decT l k) k long = true ∧ encL (decZ l k long) (decT l k) k long = l := by
  rw [rdec_val h]; exact (rdec_ok l k long).2 h
-- WALK
def encQ (vk bits : Int) (tx : ByteArray) (k l : Int) : List UInt8 := if rightB vk bits tx k l = true then encL bits tx k l else []
theorem sizeZ_val {k : Int} (h : mayB k 0 = true) (hk : ¬ k = 12) : longZ k 0 = sizeZ k := by
  rw [longZ, if_pos h, if_neg hk]
/-- what fits a plain or signed field of some width fits one that is wider -/
theorem long_width {k : Int} (h : mayB k 0 = true) (hk : ¬ k = 12) : widthB (longZ k 0) = true := by
  have := long_cases h hk
  simp [widthB]; omega
theorem bit_fits {n w : Int} {s : Bool} (h0 : 0 ≤ n) (h : n ≤ 1) (hw : widthB w = true) : fitsB n w s = true := by
  simp only [fitsB, Bool.and_eq_true]
  refine ⟨hw, ?_⟩
  have hc := width_cases hw
  have hn : n = 0 ∨ n = 1 := by omega
  cases s
  · simp
    rcases hc with rfl | rfl | rfl | rfl <;> simp [topZ] <;> omega
  · simp
    rcases hn with rfl | rfl <;> rcases hc with rfl | rfl | rfl | rfl <;> decide
theorem leL_zero (w : Nat) : leL 0 w = List.replicate w 0 := by
  induction w with
  | zero => rfl
  | succ w ih => rw [leL_succ, ih, List.replicate_succ', show (byteZ 0 w).toNat = 0 by simp [byteZ]]; rfl
theorem zero_right {k l : Int} (h : mayB k l = true) : ∃ n : Nat, longZ k l = n ∧ 0 < n ∧ n ≤ 64 ∧ rightB k 0 (zeroL k l) k l = true ∧ encL 0 (zeroL k l) k l = List.replicate n 0 := by
  by_cases hk : k = 12
  · subst hk
    have hb := btw_iff.1 (mayB_12 ▸ h)
    refine ⟨l.toNat, by rw [long_12 h]; omega, by omega, by omega, ?_, ?_⟩
    · have hs : ((zeroL 12 l).size : Int) = l := by rw [zeroL, if_pos rfl, strL_size, List.length_replicate]; omega
      simp only [rightB, h, hs, if_true, decide_true, Bool.and_true, Bool.true_and]
      simp [fitB]
    · rw [encL, if_pos rfl, zeroL, if_pos rfl, bl_strL]
  · have hlc := long_cases h hk
    have hl0 := (mayB_of h hk).1
    subst hl0
    have hw := long_width h hk
    refine ⟨(longZ k 0).toNat, by omega, by omega, by omega, ?_, ?_⟩
    · have hz : zeroL k 0 = ⟨#[]⟩ := by rw [zeroL, if_neg hk]
      have hf : fitB 0 k 0 = true := by
        rw [fitB, if_neg hk]
        split
        · rfl
        · rw [bit_fits (by decide) (by decide) hw]; rfl
      rw [hz]
      simp only [rightB, h, hf, if_neg hk, decide_true, Bool.and_true, Bool.true_and]
      rfl
    · rw [encL, if_neg hk, leL_zero]

end Go.Proofs.Ytepfabijmhhhcaa
