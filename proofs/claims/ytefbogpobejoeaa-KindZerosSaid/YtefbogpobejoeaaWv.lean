/- KindBack, walked: it tells true. -/
import Derived.Test.YtefbogpobejoeaaKo
set_option linter.unusedSimpArgs false
set_option linter.unusedVariables false
namespace Go.Proofs.Ytefbogpobejoeaa
open Go.RowKit

/-- what was written is read as it was -/
theorem enc_length {vk bits : Int} {tx : ByteArray} {k l : Int} (hr : rightB vk bits tx k l = true) : ((encL bits tx k l).length : Int) = longZ k l := by
  obtain ⟨hm, rfl, ht, hf⟩ := right_may hr
  unfold encL
  split
  · rename_i h
    subst h
    rw [long_12 hm, bl_length]
    simpa using ht
  · rename_i h
    rw [leL_length]
    have := long_cases hm h
    omega
theorem num_leL (m w : Nat) : numN (leL (m : Int) w) = m % 2 ^ (8 * w) := by
  induction w with
  | zero => simp [leL, numN, Nat.mod_one]
  | succ w ih =>
    rw [leL_succ, numN_append, leL_length, ih, byteZ_nat, Nat.mul_add, Nat.pow_add, Nat.mod_mul]
    have e : numN [UInt8.ofNat ((m / 2 ^ (8 * w) % 256 : Nat) : Int).toNat] = m / 2 ^ (8 * w) % 256 := by
      have hx : m / 2 ^ (8 * w) % 256 < 256 := Nat.mod_lt _ (by decide)
      generalize m / 2 ^ (8 * w) % 256 = x at hx ⊢
      rw [Int.toNat_natCast]
      simp [numN]; omega
    rw [e]
theorem num_enc (n : Int) (w : Nat) (h0 : 0 ≤ n) : numL (leL n w) = n % ((2 ^ (8 * w) : Nat) : Int) := by
  obtain ⟨m, rfl⟩ := Int.eq_ofNat_of_zero_le h0
  rw [numL, num_leL]; rfl
theorem sign_mod (n : Int) (w : Nat) (hw : widthB w = true) (h0 : 0 ≤ n) (h1 : n < 18446744073709551616) : signZ (n % ((2 ^ (8 * w) : Nat) : Int)) w = signZ n w := by
  have hc := width_cases hw
  rcases (by omega : w = 1 ∨ w = 2 ∨ w = 4 ∨ w = 8) with rfl | rfl | rfl | rfl
  · rw [show ((1 : Nat) : Int) = 1 from rfl, show ((2 ^ (8 * 1) : Nat) : Int) = 256 by decide, signZ_arith1 n h0 h1, signZ_arith1 _ (by omega) (by omega)]
    simp
  · rw [show ((2 : Nat) : Int) = 2 from rfl, show ((2 ^ (8 * 2) : Nat) : Int) = 65536 by decide, signZ_arith2 n h0 h1, signZ_arith2 _ (by omega) (by omega)]
    simp
  · rw [show ((4 : Nat) : Int) = 4 from rfl, show ((2 ^ (8 * 4) : Nat) : Int) = 4294967296 by decide, signZ_arith4 n h0 h1, signZ_arith4 _ (by omega) (by omega)]
    simp
  · rw [show ((8 : Nat) : Int) = 8 from rfl, show ((2 ^ (8 * 8) : Nat) : Int) = 18446744073709551616 by decide, Int.emod_eq_of_lt h0 h1]
theorem dec_enc {vk bits : Int} {tx : ByteArray} {k l : Int} (h0 : 0 ≤ bits) (h1 : bits < 18446744073709551616) (hr : rightB vk bits tx k l = true) :
    vk = k ∧ decZ (encL bits tx k l) k l = bits ∧ decT (encL bits tx k l) k = tx ∧ decB (encL bits tx k l) k l = true := by
  have hlen := enc_length hr
  obtain ⟨hm, rfl, ht, hf⟩ := right_may hr
  have key : decZ (encL bits tx vk l) vk l = bits ∧ decT (encL bits tx vk l) vk = tx := by
    by_cases hk : vk = 12
    · subst hk
      have hb : bits = 0 := by simpa [fitB] using hf
      subst hb
      refine ⟨by simp [decZ, rawZ, btw], ?_⟩
      rw [decT, encL, if_pos rfl, if_pos rfl, strL_bl]
    · have hlc := long_cases hm hk
      have htx : tx = ⟨#[]⟩ := by
        rw [if_neg hk] at ht
        have : tx.size = 0 := by omega
        obtain ⟨a⟩ := tx
        have : a = #[] := Array.eq_empty_of_size_eq_zero this
        rw [this]
      refine ⟨?_, by rw [decT, if_neg hk, htx]⟩
      have hwb : widthB (longZ vk l) = true := by simp [widthB]; omega
      obtain ⟨W, hW⟩ : ∃ W : Nat, longZ vk l = W := ⟨(longZ vk l).toNat, by omega⟩
      rw [hW] at hlc hwb hlen
      have he : encL bits tx vk l = leL bits W := by rw [encL, if_neg hk, hW]; rfl
      rw [he] at hlen ⊢
      have hraw : rawZ (leL bits W) vk l = bits % ((2 ^ (8 * W) : Nat) : Int) := by
        rw [rawZ, if_neg hk, leL_length, hW, if_pos ⟨rfl, hwb⟩, num_enc _ _ h0]
      rw [decZ, hraw, leL_length]
      rw [fitB, if_neg hk] at hf
      split
      · rename_i h5
        have h5' := btw_iff.1 h5
        rw [if_neg (by omega), hW, h5] at hf
        rw [sign_mod _ _ hwb h0 h1]
        simpa [fitsB, hwb, show ¬ vk = 10 by omega, show ¬ vk = 11 by omega] using hf
      · rename_i h5
        have h5 : btw 5 vk 8 = false := by simpa using h5
        have hlt : bits < ((2 ^ (8 * W) : Nat) : Int) := by
          split at hf
          · have : bits ≤ 1 := by simpa using hf
            rcases (by omega : W = 1 ∨ W = 2 ∨ W = 4 ∨ W = 8) with rfl | rfl | rfl | rfl <;> simp <;> omega
          · rw [hW, h5] at hf
            have hsz : vk = 10 ∨ vk = 11 → W = 8 := fun h => by
              have hW' := hW
              rw [longZ, if_pos hm, if_neg hk] at hW'
              rcases h with rfl | rfl
              · have : sizeZ 10 = 8 := by decide
                omega
              · have : sizeZ 11 = 8 := by decide
                omega
            simp only [fitsB, hwb, Bool.true_and, Bool.false_eq_true, if_false, Bool.or_eq_true, decide_eq_true_eq] at hf
            rcases (by omega : W = 1 ∨ W = 2 ∨ W = 4 ∨ W = 8) with rfl | rfl | rfl | rfl <;> simp [topZ] at hf ⊢ <;> omega
        exact Int.emod_eq_of_lt h0 hlt
  refine ⟨rfl, key.1, key.2, ?_⟩
  rw [decB, key.1, key.2, hr, hlen]
  simp
theorem enc_dec {l : List UInt8} {k long : Int} (h : decB l k long = true) : rightB k (decZ l k long) (decT l k) k long = true ∧ encL (decZ l k long) (decT l k) k long = l := by
  rw [rdec_val h]; exact (rdec_ok l k long).2 h
-- WALK
def encQ (vk bits : Int) (tx : ByteArray) (k l : Int) : List UInt8 := if rightB vk bits tx k l = true then encL bits tx k l else []
theorem Encode_any (vk bits : Int) (tx s : ByteArray) (k l : Int) (h0 : 0 ≤ bits) (h1 : bits < 18446744073709551616) (w : World) :
    Calls Try.prog 22 #[.agg #[.int .i64 vk, .int .u64 bits, .string tx], .agg #[.string s, .int .i64 k, .int .i64 l]] w fun e w' => ∃ v, e = .returned (.tuple #[v, .int .i64 (encE vk bits tx k l)]) ∧ OutB w' v (encQ vk bits tx k l) ∧ Below w.heap.size w w' := by
  by_cases h : rightB vk bits tx k l = true
  · refine (Encode_some vk bits tx s k l h0 h1 h w).mono ?_
    rintro e w' ⟨v, rfl, h2, h3⟩
    exact ⟨v, by rw [encE, if_pos h], by rw [encQ, if_pos h]; exact h2, h3⟩
  · refine (Encode_none vk bits tx s k l h0 h1 (by simpa using h) w).mono ?_
    rintro e w' ⟨rfl, h3⟩
    exact ⟨_, by rw [encE, if_neg h], by rw [encQ, if_neg h]; exact ⟨none, 0, rfl, Nat.le_refl _, Rd.nil _ _⟩, h3⟩
set_option maxHeartbeats 1600000 in
theorem KindBack_nn (vk bits : Int) (tx s : ByteArray) (k fl : Int) (A : Option Addr) (c : Nat) (l : List UInt8) (w : World) (x0 : 0 ≤ bits) (x1 : bits < 18446744073709551616) (hA : Rd w A (bytesV l)) (ht : decide ((1000 : Int) < (tx.size : Int)) = false) (ht2 : decide ((1000 : Int) < (l.length : Int)) = false) (hrb : rightB vk bits tx k fl = false) (hdb : decB l k fl = false) :
    Calls Try.prog 9 #[.agg #[.int .i64 vk, .int .u64 bits, .string tx], .agg #[.string s, .int .i64 k, .int .i64 fl], .slice A l.length c] w fun e w' => e = .returned (.bool true) ∧ Below w.heap.size w w' := by
  have HB : Below w.heap.size w ((w.alloc (.cells #[.int .i64 vk, .int .u64 bits, .string tx] 24)).alloc (.cells #[.string s, .int .i64 k, .int .i64 fl] 26)) := (below_new _).alloc (by simp) _
  have hl : l.length ≤ 1000 := by simp at ht2; omega
  have q1 : encQ vk bits tx k fl = [] := by rw [encQ, hrb]; rfl
  have q2 : encE vk bits tx k fl = 50 := by rw [encE, hrb]; rfl
  have HQ1 := Lib.hid q1
  have HE1 := Lib.hid q2
  clear hrb q1 q2
  obtain ⟨bv, be⟩ := decV_no hdb
  have HBV := Lib.hid bv
  have HBE := Lib.hid be
  clear hdb bv be
  go_enter Try.func9, Try.ntmps9
  go_wp2_with (first
    | (go_at_call 22; refine (Encode_any _ _ _ _ _ _ (by omega) (by omega) _).mono ?_; rintro e w5 ⟨x, rfl, hx, hb⟩; obtain ⟨hc, hf⟩ := bcell hb; obtain ⟨p0, p1⟩ : w.heap.size < w5.heap.size ∧ w.heap.size + 1 < w5.heap.size := (by have hz_ := hb.size; (try simp at hz_); omega); have hz5 := hb.size; (try simp at hz5); (first | (rw [HE1.out]; rw [HQ1.out] at hx) | (rw [HE2.out]; rw [HQ2.out] at hx)); obtain ⟨A5, c5, rfl, -, hr5⟩ := hx; have n_ : Below w.heap.size w _ := below_seq (by repeat (first | exact HB | refine Below.setCell ?_ (by dsimp only; omega) _ | refine Below.alloc ?_ (by have hs_ := HB.size; first | (simp; done) | (simp; omega) | omega) _ | apply Below.drew)) hb; clear HB; have HB := n_; clear n_)
    | (go_at_call 23; refine (Decode_calls A c l _ _ _ _ (hA.below HB) (by omega)).mono ?_; rintro e w4 ⟨rfl, hb⟩; obtain ⟨hc4, hf4⟩ := bcell hb; obtain ⟨q0, q1⟩ : w.heap.size < w4.heap.size ∧ w.heap.size + 1 < w4.heap.size := (by have hz_ := hb.size; (try simp at hz_); omega); rw [HBV.out, HBE.out]; have n_ : Below w.heap.size w _ := below_seq (by repeat (first | exact HB | refine Below.setCell ?_ (by dsimp only; omega) _ | refine Below.alloc ?_ (by have hs_ := HB.size; first | (simp; done) | (simp; omega) | omega) _ | apply Below.drew)) hb; clear HB; have HB := n_; clear n_)
    | (go_at_call 11; refine (alive_calls _).mono ?_; rintro e w6 ⟨rfl, hb⟩; obtain ⟨hc6, hf6⟩ := bcell hb; obtain ⟨r0, r1, r2⟩ : w.heap.size < w6.heap.size ∧ w.heap.size + 1 < w6.heap.size ∧ w4.heap.size < w6.heap.size := (by have hz_ := hb.size; (try simp at hz_); omega); have n_ : Below w.heap.size w _ := below_seq (by repeat (first | exact HB | refine Below.setCell ?_ (by dsimp only; omega) _ | refine Below.alloc ?_ (by have hs_ := HB.size; first | (simp; done) | (simp; omega) | omega) _ | apply Below.drew)) hb; clear HB; have HB := n_; clear n_))
  all_goals
    go_ret
    exact ⟨ret_bool rfl, HB⟩
set_option maxHeartbeats 1600000 in
theorem KindBack_ny (vk bits : Int) (tx s : ByteArray) (k fl : Int) (A : Option Addr) (c : Nat) (l : List UInt8) (w : World) (x0 : 0 ≤ bits) (x1 : bits < 18446744073709551616) (hA : Rd w A (bytesV l)) (ht : decide ((1000 : Int) < (tx.size : Int)) = false) (ht2 : decide ((1000 : Int) < (l.length : Int)) = false) (hrb : rightB vk bits tx k fl = false) (hdb : decB l k fl = true) :
    Calls Try.prog 9 #[.agg #[.int .i64 vk, .int .u64 bits, .string tx], .agg #[.string s, .int .i64 k, .int .i64 fl], .slice A l.length c] w fun e w' => e = .returned (.bool true) ∧ Below w.heap.size w w' := by
  have HB : Below w.heap.size w ((w.alloc (.cells #[.int .i64 vk, .int .u64 bits, .string tx] 24)).alloc (.cells #[.string s, .int .i64 k, .int .i64 fl] 26)) := (below_new _).alloc (by simp) _
  have hl : l.length ≤ 1000 := by simp at ht2; omega
  have q1 : encQ vk bits tx k fl = [] := by rw [encQ, hrb]; rfl
  have q2 : encE vk bits tx k fl = 50 := by rw [encE, hrb]; rfl
  have HQ1 := Lib.hid q1
  have HE1 := Lib.hid q2
  clear hrb q1 q2
  obtain ⟨bv, be⟩ := decV_ok hdb
  obtain ⟨hR2, hEB⟩ := enc_dec hdb
  obtain ⟨d0, d1⟩ := decZ_bd l k fl
  obtain ⟨dz, hdz⟩ : ∃ z, decZ l k fl = z := ⟨_, rfl⟩
  obtain ⟨dt, hdt⟩ : ∃ z, decT l k = z := ⟨_, rfl⟩
  rw [hdz, hdt] at bv hR2 hEB
  rw [hdz] at d0 d1
  have q1 : encQ k dz dt k fl = l := by rw [encQ, if_pos hR2, hEB]
  have q2 : encE k dz dt k fl = 0 := by rw [encE, if_pos hR2]
  have HQ2 := Lib.hid q1
  have HE2 := Lib.hid q2
  have HBV := Lib.hid bv
  have HBE := Lib.hid be
  clear hdb bv be hR2 hEB hdz hdt q1 q2
  go_enter Try.func9, Try.ntmps9
  go_wp2_with (first
    | (go_at_call 22; refine (Encode_any _ _ _ _ _ _ (by omega) (by omega) _).mono ?_; rintro e w5 ⟨x, rfl, hx, hb⟩; obtain ⟨hc, hf⟩ := bcell hb; obtain ⟨p0, p1⟩ : w.heap.size < w5.heap.size ∧ w.heap.size + 1 < w5.heap.size := (by have hz_ := hb.size; (try simp at hz_); omega); have hz5 := hb.size; (try simp at hz5); (first | (rw [HE1.out]; rw [HQ1.out] at hx) | (rw [HE2.out]; rw [HQ2.out] at hx)); obtain ⟨A5, c5, rfl, -, hr5⟩ := hx; have n_ : Below w.heap.size w _ := below_seq (by repeat (first | exact HB | refine Below.setCell ?_ (by dsimp only; omega) _ | refine Below.alloc ?_ (by have hs_ := HB.size; first | (simp; done) | (simp; omega) | omega) _ | apply Below.drew)) hb; clear HB; have HB := n_; clear n_)
    | (go_at_call 23; refine (Decode_calls A c l _ _ _ _ (hA.below HB) (by omega)).mono ?_; rintro e w4 ⟨rfl, hb⟩; obtain ⟨hc4, hf4⟩ := bcell hb; obtain ⟨q0, q1⟩ : w.heap.size < w4.heap.size ∧ w.heap.size + 1 < w4.heap.size := (by have hz_ := hb.size; (try simp at hz_); omega); rw [HBV.out, HBE.out]; have n_ : Below w.heap.size w _ := below_seq (by repeat (first | exact HB | refine Below.setCell ?_ (by dsimp only; omega) _ | refine Below.alloc ?_ (by have hs_ := HB.size; first | (simp; done) | (simp; omega) | omega) _ | apply Below.drew)) hb; clear HB; have HB := n_; clear n_)
    | (go_at_call 11; refine (alive_calls _).mono ?_; rintro e w6 ⟨rfl, hb⟩; obtain ⟨hc6, hf6⟩ := bcell hb; obtain ⟨r0, r1, r2⟩ : w.heap.size < w6.heap.size ∧ w.heap.size + 1 < w6.heap.size ∧ w4.heap.size < w6.heap.size := (by have hz_ := hb.size; (try simp at hz_); omega); have hv1 := conv_str (hr5.below hb) c5; have hv2 := conv_str (hA.below (below_seq HB hb)) c; have n_ : Below w.heap.size w _ := below_seq (by repeat (first | exact HB | refine Below.setCell ?_ (by dsimp only; omega) _ | refine Below.alloc ?_ (by have hs_ := HB.size; first | (simp; done) | (simp; omega) | omega) _ | apply Below.drew)) hb; clear HB; have HB := n_; clear n_))
  all_goals
    go_ret
    exact ⟨ret_bool rfl, HB⟩
set_option maxHeartbeats 1600000 in
theorem KindBack_yn (vk bits : Int) (tx s : ByteArray) (k fl : Int) (A : Option Addr) (c : Nat) (l : List UInt8) (w : World) (x0 : 0 ≤ bits) (x1 : bits < 18446744073709551616) (hA : Rd w A (bytesV l)) (ht : decide ((1000 : Int) < (tx.size : Int)) = false) (ht2 : decide ((1000 : Int) < (l.length : Int)) = false) (hrb : rightB vk bits tx k fl = true) (hdb : decB l k fl = false) :
    Calls Try.prog 9 #[.agg #[.int .i64 vk, .int .u64 bits, .string tx], .agg #[.string s, .int .i64 k, .int .i64 fl], .slice A l.length c] w fun e w' => e = .returned (.bool true) ∧ Below w.heap.size w w' := by
  have HB : Below w.heap.size w ((w.alloc (.cells #[.int .i64 vk, .int .u64 bits, .string tx] 24)).alloc (.cells #[.string s, .int .i64 k, .int .i64 fl] 26)) := (below_new _).alloc (by simp) _
  have hl : l.length ≤ 1000 := by simp at ht2; omega
  obtain ⟨rfl, e1, e2, e3⟩ := dec_enc x0 x1 hrb
  have hlen1 := enc_length hrb
  obtain ⟨f1, f2⟩ := decV_ok e3
  rw [e1, e2] at f1
  have q1 : encQ vk bits tx vk fl = encL bits tx vk fl := by rw [encQ, if_pos hrb]
  have q2 : encE vk bits tx vk fl = 0 := by rw [encE, if_pos hrb]
  have hl1 : (encL bits tx vk fl).length ≤ 9223372036854775807 := by
    have hm := (right_may hrb).1
    by_cases hk : vk = 12
    · rw [encL, if_pos hk, bl_length]; simp at ht; omega
    · have := long_cases hm hk; omega
  obtain ⟨L1, hL1⟩ : ∃ L, encL bits tx vk fl = L := ⟨_, rfl⟩
  rw [hL1] at hlen1 f1 f2 q1 hl1
  obtain ⟨lz, hlz⟩ : ∃ z, longZ vk fl = z := ⟨_, rfl⟩
  rw [hlz] at hlen1
  have hne : ((L1.length : Int) != lz) = false := by simpa using hlen1
  have HDV := Lib.hid f1
  have HDE := Lib.hid f2
  have HLZ := Lib.hid hlz
  have HQ1 := Lib.hid q1
  have HE1 := Lib.hid q2
  clear hrb e1 e2 e3 f1 f2 hL1 hlz hlen1 q1 q2
  obtain ⟨bv, be⟩ := decV_no hdb
  have HBV := Lib.hid bv
  have HBE := Lib.hid be
  clear hdb bv be
  go_enter Try.func9, Try.ntmps9
  go_wp2_with (first
    | (go_at_call 22; refine (Encode_any _ _ _ _ _ _ (by omega) (by omega) _).mono ?_; rintro e w5 ⟨x, rfl, hx, hb⟩; obtain ⟨hc, hf⟩ := bcell hb; obtain ⟨p0, p1⟩ : w.heap.size < w5.heap.size ∧ w.heap.size + 1 < w5.heap.size := (by have hz_ := hb.size; (try simp at hz_); omega); have hz5 := hb.size; (try simp at hz5); (first | (rw [HE1.out]; rw [HQ1.out] at hx) | (rw [HE2.out]; rw [HQ2.out] at hx)); obtain ⟨A5, c5, rfl, -, hr5⟩ := hx; have n_ : Below w.heap.size w _ := below_seq (by repeat (first | exact HB | refine Below.setCell ?_ (by dsimp only; omega) _ | refine Below.alloc ?_ (by have hs_ := HB.size; first | (simp; done) | (simp; omega) | omega) _ | apply Below.drew)) hb; clear HB; have HB := n_; clear n_)
    | (go_at_call 23; refine (Decode_calls _ _ _ _ _ _ _ (by first | with_reducible exact hr5 | exact hA.below HB) (by omega)).mono ?_; rintro e w4 ⟨rfl, hb⟩; obtain ⟨hc4, hf4⟩ := bcell hb; obtain ⟨q0, q1⟩ : w.heap.size < w4.heap.size ∧ w.heap.size + 1 < w4.heap.size := (by have hz_ := hb.size; (try simp at hz_); omega); (first | rw [HDV.out, HDE.out] | rw [HBV.out, HBE.out]); have n_ : Below w.heap.size w _ := below_seq (by repeat (first | exact HB | refine Below.setCell ?_ (by dsimp only; omega) _ | refine Below.alloc ?_ (by have hs_ := HB.size; first | (simp; done) | (simp; omega) | omega) _ | apply Below.drew)) hb; clear HB; have HB := n_; clear n_)
    | (go_at_call 21; refine (Long_calls _ _ _ _).mono ?_; rintro e w3 ⟨rfl, hb⟩; obtain ⟨hc3, hf3⟩ := bcell hb; obtain ⟨u0, u1⟩ : w.heap.size < w3.heap.size ∧ w.heap.size + 1 < w3.heap.size := (by have hz_ := hb.size; (try simp at hz_); omega); rw [HLZ.out]; have n_ : Below w.heap.size w _ := below_seq (by repeat (first | exact HB | refine Below.setCell ?_ (by dsimp only; omega) _ | refine Below.alloc ?_ (by have hs_ := HB.size; first | (simp; done) | (simp; omega) | omega) _ | apply Below.drew)) hb; clear HB; have HB := n_; clear n_)
    | (go_at_call 11; refine (alive_calls _).mono ?_; rintro e w6 ⟨rfl, hb⟩; obtain ⟨hc6, hf6⟩ := bcell hb; obtain ⟨r0, r1, r2⟩ : w.heap.size < w6.heap.size ∧ w.heap.size + 1 < w6.heap.size ∧ w4.heap.size < w6.heap.size := (by have hz_ := hb.size; (try simp at hz_); omega); have n_ : Below w.heap.size w _ := below_seq (by repeat (first | exact HB | refine Below.setCell ?_ (by dsimp only; omega) _ | refine Below.alloc ?_ (by have hs_ := HB.size; first | (simp; done) | (simp; omega) | omega) _ | apply Below.drew)) hb; clear HB; have HB := n_; clear n_))
  all_goals
    go_ret
    exact ⟨ret_bool rfl, HB⟩
set_option maxHeartbeats 1600000 in
theorem KindBack_yy (vk bits : Int) (tx s : ByteArray) (k fl : Int) (A : Option Addr) (c : Nat) (l : List UInt8) (w : World) (x0 : 0 ≤ bits) (x1 : bits < 18446744073709551616) (hA : Rd w A (bytesV l)) (ht : decide ((1000 : Int) < (tx.size : Int)) = false) (ht2 : decide ((1000 : Int) < (l.length : Int)) = false) (hrb : rightB vk bits tx k fl = true) (hdb : decB l k fl = true) :
    Calls Try.prog 9 #[.agg #[.int .i64 vk, .int .u64 bits, .string tx], .agg #[.string s, .int .i64 k, .int .i64 fl], .slice A l.length c] w fun e w' => e = .returned (.bool true) ∧ Below w.heap.size w w' := by
  have HB : Below w.heap.size w ((w.alloc (.cells #[.int .i64 vk, .int .u64 bits, .string tx] 24)).alloc (.cells #[.string s, .int .i64 k, .int .i64 fl] 26)) := (below_new _).alloc (by simp) _
  have hl : l.length ≤ 1000 := by simp at ht2; omega
  obtain ⟨rfl, e1, e2, e3⟩ := dec_enc x0 x1 hrb
  have hlen1 := enc_length hrb
  obtain ⟨f1, f2⟩ := decV_ok e3
  rw [e1, e2] at f1
  have q1 : encQ vk bits tx vk fl = encL bits tx vk fl := by rw [encQ, if_pos hrb]
  have q2 : encE vk bits tx vk fl = 0 := by rw [encE, if_pos hrb]
  have hl1 : (encL bits tx vk fl).length ≤ 9223372036854775807 := by
    have hm := (right_may hrb).1
    by_cases hk : vk = 12
    · rw [encL, if_pos hk, bl_length]; simp at ht; omega
    · have := long_cases hm hk; omega
  obtain ⟨L1, hL1⟩ : ∃ L, encL bits tx vk fl = L := ⟨_, rfl⟩
  rw [hL1] at hlen1 f1 f2 q1 hl1
  obtain ⟨lz, hlz⟩ : ∃ z, longZ vk fl = z := ⟨_, rfl⟩
  rw [hlz] at hlen1
  have hne : ((L1.length : Int) != lz) = false := by simpa using hlen1
  have HDV := Lib.hid f1
  have HDE := Lib.hid f2
  have HLZ := Lib.hid hlz
  have HQ1 := Lib.hid q1
  have HE1 := Lib.hid q2
  clear hrb e1 e2 e3 f1 f2 hL1 hlz hlen1 q1 q2
  obtain ⟨bv, be⟩ := decV_ok hdb
  obtain ⟨hR2, hEB⟩ := enc_dec hdb
  obtain ⟨d0, d1⟩ := decZ_bd l vk fl
  obtain ⟨dz, hdz⟩ : ∃ z, decZ l vk fl = z := ⟨_, rfl⟩
  obtain ⟨dt, hdt⟩ : ∃ z, decT l vk = z := ⟨_, rfl⟩
  rw [hdz, hdt] at bv hR2 hEB
  rw [hdz] at d0 d1
  have q1 : encQ vk dz dt vk fl = l := by rw [encQ, if_pos hR2, hEB]
  have q2 : encE vk dz dt vk fl = 0 := by rw [encE, if_pos hR2]
  have HQ2 := Lib.hid q1
  have HE2 := Lib.hid q2
  have HBV := Lib.hid bv
  have HBE := Lib.hid be
  clear hdb bv be hR2 hEB hdz hdt q1 q2
  go_enter Try.func9, Try.ntmps9
  go_wp2_with (first
    | (go_at_call 22; refine (Encode_any _ _ _ _ _ _ (by omega) (by omega) _).mono ?_; rintro e w5 ⟨x, rfl, hx, hb⟩; obtain ⟨hc, hf⟩ := bcell hb; obtain ⟨p0, p1⟩ : w.heap.size < w5.heap.size ∧ w.heap.size + 1 < w5.heap.size := (by have hz_ := hb.size; (try simp at hz_); omega); have hz5 := hb.size; (try simp at hz5); (first | (rw [HE1.out]; rw [HQ1.out] at hx) | (rw [HE2.out]; rw [HQ2.out] at hx)); obtain ⟨A5, c5, rfl, -, hr5⟩ := hx; have n_ : Below w.heap.size w _ := below_seq (by repeat (first | exact HB | refine Below.setCell ?_ (by dsimp only; omega) _ | refine Below.alloc ?_ (by have hs_ := HB.size; first | (simp; done) | (simp; omega) | omega) _ | apply Below.drew)) hb; clear HB; have HB := n_; clear n_)
    | (go_at_call 23; refine (Decode_calls _ _ _ _ _ _ _ (by first | with_reducible exact hr5 | exact hA.below HB) (by omega)).mono ?_; rintro e w4 ⟨rfl, hb⟩; obtain ⟨hc4, hf4⟩ := bcell hb; obtain ⟨q0, q1⟩ : w.heap.size < w4.heap.size ∧ w.heap.size + 1 < w4.heap.size := (by have hz_ := hb.size; (try simp at hz_); omega); (first | rw [HDV.out, HDE.out] | rw [HBV.out, HBE.out]); have n_ : Below w.heap.size w _ := below_seq (by repeat (first | exact HB | refine Below.setCell ?_ (by dsimp only; omega) _ | refine Below.alloc ?_ (by have hs_ := HB.size; first | (simp; done) | (simp; omega) | omega) _ | apply Below.drew)) hb; clear HB; have HB := n_; clear n_)
    | (go_at_call 21; refine (Long_calls _ _ _ _).mono ?_; rintro e w3 ⟨rfl, hb⟩; obtain ⟨hc3, hf3⟩ := bcell hb; obtain ⟨u0, u1⟩ : w.heap.size < w3.heap.size ∧ w.heap.size + 1 < w3.heap.size := (by have hz_ := hb.size; (try simp at hz_); omega); rw [HLZ.out]; have n_ : Below w.heap.size w _ := below_seq (by repeat (first | exact HB | refine Below.setCell ?_ (by dsimp only; omega) _ | refine Below.alloc ?_ (by have hs_ := HB.size; first | (simp; done) | (simp; omega) | omega) _ | apply Below.drew)) hb; clear HB; have HB := n_; clear n_)
    | (go_at_call 11; refine (alive_calls _).mono ?_; rintro e w6 ⟨rfl, hb⟩; obtain ⟨hc6, hf6⟩ := bcell hb; obtain ⟨r0, r1, r2⟩ : w.heap.size < w6.heap.size ∧ w.heap.size + 1 < w6.heap.size ∧ w4.heap.size < w6.heap.size := (by have hz_ := hb.size; (try simp at hz_); omega); have hv1 := conv_str (hr5.below hb) c5; have hv2 := conv_str (hA.below (below_seq HB hb)) c; have n_ : Below w.heap.size w _ := below_seq (by repeat (first | exact HB | refine Below.setCell ?_ (by dsimp only; omega) _ | refine Below.alloc ?_ (by have hs_ := HB.size; first | (simp; done) | (simp; omega) | omega) _ | apply Below.drew)) hb; clear HB; have HB := n_; clear n_))
  all_goals
    go_ret
    exact ⟨ret_bool rfl, HB⟩
set_option maxHeartbeats 1600000 in
theorem KindBack_calls (vk bits : Int) (tx s : ByteArray) (k fl : Int) (A : Option Addr) (c : Nat) (l : List UInt8) (w : World) (v0 : -9223372036854775808 ≤ vk) (v1 : vk ≤ 9223372036854775807) (x0 : 0 ≤ bits) (x1 : bits < 18446744073709551616) (hs : tx.size ≤ maxLen)
    (k0 : -9223372036854775808 ≤ k) (k1 : k ≤ 9223372036854775807) (l0 : -9223372036854775808 ≤ fl) (l1 : fl ≤ 9223372036854775807) (hs1 : s.size ≤ maxLen) (hlc : l.length ≤ c) (hcm : c ≤ maxLen) (hA : Rd w A (bytesV l)) :
    Calls Try.prog 9 #[.agg #[.int .i64 vk, .int .u64 bits, .string tx], .agg #[.string s, .int .i64 k, .int .i64 fl], .slice A l.length c] w fun e w' => e = .returned (.bool true) ∧ Below w.heap.size w w' := by
  by_cases hlen : 1000 < tx.size ∨ 1000 < l.length
  · have ht : decide ((1000 : Int) < (tx.size : Int)) = true ∨ (decide ((1000 : Int) < (tx.size : Int)) = false ∧ decide ((1000 : Int) < (l.length : Int)) = true) := by simp; omega
    clear hlen v0 v1 k0 k1 l0 l1 hs1 hs hlc hcm
    have HB : Below w.heap.size w ((w.alloc (.cells #[.int .i64 vk, .int .u64 bits, .string tx] 24)).alloc (.cells #[.string s, .int .i64 k, .int .i64 fl] 26)) := (below_new _).alloc (by simp) _
    rcases ht with ht | ⟨ht, ht2⟩
    all_goals
      go_enter Try.func9, Try.ntmps9
      go_wp2_with (first
        | (go_at_call 11; refine (alive_calls _).mono ?_; rintro e w6 ⟨rfl, hb⟩; obtain ⟨hc6, hf6⟩ := bcell hb; obtain ⟨r0, r1⟩ : w.heap.size < w6.heap.size ∧ w.heap.size + 1 < w6.heap.size := (by have hz_ := hb.size; (try simp at hz_); omega); have n_ : Below w.heap.size w _ := below_seq (by repeat (first | exact HB | refine Below.setCell ?_ (by dsimp only; omega) _ | refine Below.alloc ?_ (by have hs_ := HB.size; first | (simp; done) | (simp; omega) | omega) _ | apply Below.drew)) hb; clear HB; have HB := n_; clear n_))
      all_goals
        go_ret
        exact ⟨ret_bool rfl, HB⟩
  · obtain ⟨ht, ht2⟩ : decide ((1000 : Int) < (tx.size : Int)) = false ∧ decide ((1000 : Int) < (l.length : Int)) = false := by simp; omega
    cases hrb : rightB vk bits tx k fl
    · cases hdb : decB l k fl
      · exact KindBack_nn vk bits tx s k fl A c l w x0 x1 hA ht ht2 hrb hdb
      · exact KindBack_ny vk bits tx s k fl A c l w x0 x1 hA ht ht2 hrb hdb
    · cases hdb : decB l k fl
      · exact KindBack_yn vk bits tx s k fl A c l w x0 x1 hA ht ht2 hrb hdb
      · exact KindBack_yy vk bits tx s k fl A c l w x0 x1 hA ht ht2 hrb hdb
end Go.Proofs.Ytefbogpobejoeaa
