/- KindZeros, walked: it tells true. -/
import Derived.Test.YtefbogpobejoeaaWw
import Derived.Test.YtefbogpobejoeaaWc
import Derived.Deep.DeepCutAuto
import Derived.Deep.RegionWith
set_option linter.unusedSimpArgs false
set_option linter.unusedVariables false
namespace Go.Proofs.Ytefbogpobejoeaa
open Go.RowKit

theorem leL_zero (w : Nat) : leL 0 w = List.replicate w 0 := by
  induction w with
  | zero => rfl
  | succ w ih => rw [leL_succ, ih, List.replicate_succ', show (byteZ 0 w).toNat = 0 by simp [byteZ]]; rfl
theorem zero_right {k l : Int} (h : mayB k l = true) : ∃ n : Nat, longZ k l = n ∧ 0 < n ∧ n ≤ 64 ∧ rightB k 0 (zeroL k l) k l = true ∧ encL 0 (zeroL k l) k l = List.replicate n 0 := by
  by_cases hk : k = 12
  · subst hk
    have hb := btw_iff.1 (mayB_12 ▸ h)
    refine ⟨l.toNat, by rw [long_12 h]; omega, by omega, by omega, ?_, ?_⟩
    · have hs : ((zeroL 12 l).size : Int) = l := by rw [zeroL, if_pos rfl, strL_size, List.length_replicate]; omega
      simp only [rightB, h, hs, if_true, decide_true, Bool.and_true, Bool.true_and]
      simp [fitB]
    · rw [encL, if_pos rfl, zeroL, if_pos rfl, bl_strL]
  · have hlc := long_cases h hk
    have hl0 := (mayB_of h hk).1
    subst hl0
    have hw := long_width h hk
    refine ⟨(longZ k 0).toNat, by omega, by omega, by omega, ?_, ?_⟩
    · have hz : zeroL k 0 = ⟨#[]⟩ := by rw [zeroL, if_neg hk]
      have hf : fitB 0 k 0 = true := by
        rw [fitB, if_neg hk]
        split
        · rfl
        · rw [bit_fits (by decide) (by decide) hw]; rfl
      rw [hz]
      simp only [rightB, h, hf, if_neg hk, decide_true, Bool.and_true, Bool.true_and]
      rfl
    · rw [encL, if_neg hk, leL_zero]

set_option maxHeartbeats 1600000 in
theorem KindZeros_none (s : ByteArray) (k l : Int) (w : World) (h : mayB k l = false) :
    Calls Try.prog 8 #[.agg #[.string s, .int .i64 k, .int .i64 l]] w fun e w' => e = .returned (.bool true) ∧ Below w.heap.size w w' := by
  have HB : Below w.heap.size w (w.alloc (.cells #[.string s, .int .i64 k, .int .i64 l] 26)) := below_new _
  have hz : zeroV k l = .agg #[.int .i64 0, .int .u64 0, .string ⟨#[]⟩] := by rw [zeroV, h]; rfl
  have hl : longZ k l = 0 := by rw [longZ, h]; rfl
  have hr : rightB 0 0 ⟨#[]⟩ k l = false := by rw [rightB, h]; rfl
  have HZ := Lib.hid hz; have HL := Lib.hid hl; have HR := Lib.hid hr
  clear hz hl hr h
  go_enter Try.func8, Try.ntmps8
  go_wp2_with (first
    | (go_at_call 20; refine (Zero_is _ _ _ _ HZ.out _).mono ?_; rintro e w1 ⟨rfl, hb⟩; obtain ⟨hc, hf⟩ := bcell hb; have z0 : w.heap.size < w1.heap.size := (by have hz_ := hb.size; (try simp at hz_); omega); have n_ : Below w.heap.size w _ := below_seq (by repeat (first | exact HB | refine Below.setCell ?_ (by dsimp only; omega) _ | refine Below.alloc ?_ (by have hs_ := HB.size; first | (simp; done) | (simp; omega) | omega) _ | apply Below.drew)) hb; clear HB; have HB := n_; clear n_)
    | (go_at_call 21; refine (Long_is _ _ _ _ HL.out _).mono ?_; rintro e w2 ⟨rfl, hb⟩; obtain ⟨hc2, hf2⟩ := bcell hb; obtain ⟨y0, y1⟩ : w.heap.size < w2.heap.size ∧ w1.heap.size < w2.heap.size := (by have hz_ := hb.size; (try simp at hz_); omega); have n_ : Below w.heap.size w _ := below_seq (by repeat (first | exact HB | refine Below.setCell ?_ (by dsimp only; omega) _ | refine Below.alloc ?_ (by have hs_ := HB.size; first | (simp; done) | (simp; omega) | omega) _ | apply Below.drew)) hb; clear HB; have HB := n_; clear n_)
    | (go_at_call 11; refine (alive_calls _).mono ?_; rintro e w4 ⟨rfl, hb⟩; obtain ⟨hc4, hf4⟩ := bcell hb; obtain ⟨q0, q1⟩ : w.heap.size < w4.heap.size ∧ w1.heap.size < w4.heap.size := (by have hz_ := hb.size; (try simp at hz_); omega); have n_ : Below w.heap.size w _ := below_seq (by repeat (first | exact HB | refine Below.setCell ?_ (by dsimp only; omega) _ | refine Below.alloc ?_ (by have hs_ := HB.size; first | (simp; done) | (simp; omega) | omega) _ | apply Below.drew)) hb; clear HB; have HB := n_; clear n_)
    | (go_at_call 16; refine (Right_is _ _ _ _ _ _ (by decide) (by decide) _ HR.out _).mono ?_; rintro e w5 ⟨rfl, hb⟩; obtain ⟨hc5, hf5⟩ := bcell hb; obtain ⟨u0, u1⟩ : w.heap.size < w5.heap.size ∧ w1.heap.size < w5.heap.size := (by have hz_ := hb.size; (try simp at hz_); omega); have n_ : Below w.heap.size w _ := below_seq (by repeat (first | exact HB | refine Below.setCell ?_ (by dsimp only; omega) _ | refine Below.alloc ?_ (by have hs_ := HB.size; first | (simp; done) | (simp; omega) | omega) _ | apply Below.drew)) hb; clear HB; have HB := n_; clear n_))
  all_goals
    go_ret
    exact ⟨ret_bool rfl, HB⟩

set_option maxHeartbeats 3200000 in
theorem KindZeros_some (s : ByteArray) (k l : Int) (w : World) (h : mayB k l = true) :
    Calls Try.prog 8 #[.agg #[.string s, .int .i64 k, .int .i64 l]] w fun e w' => e = .returned (.bool true) ∧ Below w.heap.size w w' := by
  have HB : Below w.heap.size w (w.alloc (.cells #[.string s, .int .i64 k, .int .i64 l] 26)) := below_new _
  obtain ⟨n, hl, hn0, hn, hr, he⟩ := zero_right h
  have hz : zeroV k l = .agg #[.int .i64 k, .int .u64 0, .string (zeroL k l)] := by rw [zeroV, if_pos h]
  generalize zeroL k l = zl at *
  have HZ := Lib.hid hz; have HL := Lib.hid hl; have HR := Lib.hid hr; have HE := Lib.hid he
  have hn1 : ((n : Int) == 0) = false := by simp; omega
  have hmk := make_bytes n (by omega)
  have hcv := fun (W : World) => conv_str (rd_new W (bytesV (List.replicate n 0)) 5) n
  simp only [List.length_replicate] at hcv
  clear hz hl hr h he
  go_enter Try.func8, Try.ntmps8
  go_upto_region 6 with (first
    | (go_at_call 20; refine (Zero_is _ _ _ _ HZ.out _).mono ?_; rintro e w1 ⟨rfl, hb⟩; obtain ⟨hc, hf⟩ := bcell hb; have z0 : w.heap.size < w1.heap.size := (by have hz_ := hb.size; (try simp at hz_); omega); have n_ : Below w.heap.size w _ := below_seq (by repeat (first | exact HB | refine Below.setCell ?_ (by dsimp only; omega) _ | refine Below.alloc ?_ (by have hs_ := HB.size; first | (simp; done) | (simp; omega) | omega) _ | apply Below.drew)) hb; clear HB; have HB := n_; clear n_)
    | (go_at_call 21; refine (Long_is _ _ _ _ HL.out _).mono ?_; rintro e w2 ⟨rfl, hb⟩; obtain ⟨hc2, hf2⟩ := bcell hb; obtain ⟨y0, y1⟩ : w.heap.size < w2.heap.size ∧ w1.heap.size < w2.heap.size := (by have hz_ := hb.size; (try simp at hz_); omega); have n_ : Below w.heap.size w _ := below_seq (by repeat (first | exact HB | refine Below.setCell ?_ (by dsimp only; omega) _ | refine Below.alloc ?_ (by have hs_ := HB.size; first | (simp; done) | (simp; omega) | omega) _ | apply Below.drew)) hb; clear HB; have HB := n_; clear n_)
    | (go_at_call 22; refine (Encode_some _ _ _ _ _ _ (by decide) (by decide) HR.out _).mono ?_; rintro e w3 ⟨x, rfl, hx, hb⟩; obtain ⟨hc3, hf3⟩ := bcell hb; obtain ⟨p0, p1⟩ : w.heap.size < w3.heap.size ∧ w1.heap.size < w3.heap.size := (by have hz_ := hb.size; (try simp at hz_); omega); rw [HE.out] at hx; obtain ⟨A3, c3, rfl, -, hr3⟩ := hx; rw [List.length_replicate]; have n_ : Below w.heap.size w _ := below_seq (by repeat (first | exact HB | refine Below.setCell ?_ (by dsimp only; omega) _ | refine Below.alloc ?_ (by have hs_ := HB.size; first | (simp; done) | (simp; omega) | omega) _ | apply Below.drew)) hb; clear HB; have HB := n_; clear n_))
  rename_i K hK
  have m0 : w3.cell? ⟨w1.heap.size, 0, none⟩ = some (.int .i64 k) := by go_simp
  have m1 : w3.cell? ⟨w1.heap.size, 1, none⟩ = some (.int .u64 0) := by go_simp
  have m2 : w3.cell? ⟨w1.heap.size, 2, none⟩ = some (.string zl) := by go_simp
  have o0 : w3.cell? ⟨w.heap.size, 0, none⟩ = some (.string s) := by go_simp
  have o1 : w3.cell? ⟨w.heap.size, 1, none⟩ = some (.int .i64 k) := by go_simp
  have o2 : w3.cell? ⟨w.heap.size, 2, none⟩ = some (.int .i64 l) := by go_simp
  clear hc hf hc2 hf2 hc3 hf3
  go_region_with (first
    | (go_at_call 11; refine (alive_calls _).mono ?_; rintro e w4 ⟨rfl, hb⟩; replace hb : Below w3.heap.size w3 w4 := (Below.drew (Below.refl w3.heap.size w3)).trans hb; obtain ⟨hc4, hf4⟩ := bcell hb; obtain ⟨q0, q1⟩ : w.heap.size < w4.heap.size ∧ w1.heap.size < w4.heap.size := (by have hz_ := hb.size; (try simp at hz_); omega); have hr4 := hr3.below hb; have hv1 := conv_str hr4 c3; have hv2 := fun o => conv_str (hr4.below (below_new o)) c3; simp only [List.length_replicate] at hv1 hv2; have n_ : Below w.heap.size w _ := below_seq (by repeat (first | exact HB | refine Below.setCell ?_ (by dsimp only; omega) _ | refine Below.alloc ?_ (by have hs_ := HB.size; first | (simp; done) | (simp; omega) | omega) _ | apply Below.drew)) hb; clear HB; have HB := n_; clear n_)
    | (go_at_call 16; refine (Right_is _ _ _ _ _ _ (by decide) (by decide) _ HR.out _).mono ?_; rintro e w5 ⟨rfl, hb⟩; have n_ : Below w.heap.size w _ := below_seq (by repeat (first | exact HB | refine Below.setCell ?_ (by dsimp only; omega) _ | refine Below.alloc ?_ (by have hs_ := HB.size; first | (simp; done) | (simp; omega) | omega) _ | apply Below.drew)) hb; clear HB; have HB := n_; clear n_))
  all_goals
    refine hK _ _ ?_
    go_wp2_with fail
    go_ret
    exact ⟨ret_bool rfl, HB⟩
theorem KindZeros_calls (s : ByteArray) (k l : Int) (k0 : -9223372036854775808 ≤ k) (k1 : k ≤ 9223372036854775807) (l0 : -9223372036854775808 ≤ l) (l1 : l ≤ 9223372036854775807) (hs : s.size ≤ maxLen) (w : World) :
    Calls Try.prog 8 #[.agg #[.string s, .int .i64 k, .int .i64 l]] w fun e w' => e = .returned (.bool true) ∧ Below w.heap.size w w' := by
  cases h : mayB k l
  · exact KindZeros_none s k l w h
  · exact KindZeros_some s k l w h
end Go.Proofs.Ytefbogpobejoeaa
