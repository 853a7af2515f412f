/- Merged out of: Ks. -/
import Derived.Test.YtehcpjodkadfnaaUj
import Derived.Deep.DeepCutAuto
/- Layer 5's reference, seventh part: casts. -/
set_option linter.unusedSimpArgs false
set_option linter.unusedVariables false
set_option maxRecDepth 100000
namespace Go.Proofs.Ytehcpjodkadfnaa
open Go.RowKit

theorem rFloat_calls (b : Int) (minus : Bool) (h0 : 0 ≤ b) (h1 : b < 18446744073709551616) (w : World) : Calls Try.prog 76 #[.int .u64 b, .bool minus] w fun e w' => e = .returned (.int .u64 (refF b.toNat minus)) ∧ w = w' := by
  obtain ⟨m, rfl⟩ := Int.eq_ofNat_of_zero_le h0
  rw [Int.toNat_natCast]
  by_cases h : m = 0
  · subst h; exact rFloat_zero minus w
  · have e : refF m minus = (fBits minus m : Int) := by rw [refF, if_neg h]
    rw [e]
    by_cases hL : 52 < m.log2
    · exact rFloat_big m h (by omega) hL minus _ rfl w
    · exact rFloat_small m h (by omega) (by omega) minus _ rfl w
theorem refF_plain (m : Nat) : refF m false = (fBits false m : Int) := by
  unfold refF
  split
  · rename_i h; subst h; rfl
  · rfl
theorem refF_minus (m : Nat) (h : m ≠ 0) : refF m true = (fBits true m : Int) := by rw [refF, if_neg h]
theorem rCasts_is (s s2 : ByteArray) (k l k2 l2 : Int) (r : Bool) (h : castsB k l k2 l2 = r) (w : World) : Calls Try.prog 31 #[.agg #[.string s, .int .i64 k, .int .i64 l], .agg #[.string s2, .int .i64 k2, .int .i64 l2]] w fun e w' => e = .returned (.bool r) ∧ Below w.heap.size w w' := h ▸ rCasts_calls s s2 k l k2 l2 w
set_option maxHeartbeats 800000 in
theorem rCast_wrong (vk bits : Int) (tx s s2 : ByteArray) (k l k2 l2 : Int) (h0 : 0 ≤ bits) (h1 : bits < 18446744073709551616) (hr : rightB vk bits tx k l = false) (w : World) :
    Calls Try.prog 63 #[.agg #[.int .i64 vk, .int .u64 bits, .string tx], .agg #[.string s, .int .i64 k, .int .i64 l], .agg #[.string s2, .int .i64 k2, .int .i64 l2]] w fun e w' => e = .returned (.tuple #[.agg #[.int .i64 0, .int .u64 0, .string ⟨#[]⟩], .int .i64 50]) ∧ Below w.heap.size w w' := by
  have HB : Below w.heap.size w ((((w.alloc (.cells #[.int .i64 vk, .int .u64 bits, .string tx] 27)).alloc (.cells #[.string s, .int .i64 k, .int .i64 l] 24)).alloc (.cells #[.string s2, .int .i64 k2, .int .i64 l2] 24)).alloc (.cells #[.int .i64 0, .int .u64 0, .string ⟨#[]⟩] 27)) := (((below_new _).alloc (by simp) _).alloc (by simp; omega) _).alloc (by simp; omega) _
  have hss := setCell_twice
  have HR := Lib.hid hr
  clear hr
  go_enter Try.func63, Try.ntmps63
  go_wp2_with (first
    | (go_at_call 32; refine (rRight_is5 _ _ _ _ _ _ h0 h1 _ HR.out _).mono ?_; rintro e w1 ⟨rfl, hb⟩; obtain ⟨hc, hf⟩ := bcell hb; obtain ⟨z0, z1, z2, z3⟩ : w.heap.size < w1.heap.size ∧ w.heap.size + 1 < w1.heap.size ∧ w.heap.size + 1 + 1 < w1.heap.size ∧ w.heap.size + 1 + 1 + 1 < w1.heap.size := (by have hz_ := hb.size; (try simp at hz_); omega); have n_ : Below w.heap.size w _ := below_seq (by repeat (first | exact HB | refine Below.setCell ?_ (by dsimp only; omega) _ | refine Below.alloc ?_ (by have hs_ := HB.size; first | (simp; done) | (simp; omega) | omega) _ | apply Below.drew)) hb; clear HB; have HB := n_; clear n_))
  refine bodyPost_ret (v := .tuple #[.agg #[.int .i64 0, .int .u64 0, .string (⟨#[]⟩ : ByteArray)], .int .i64 50]) (by simp [results, Try.results63, go_sem, *]) rfl ⟨rfl, ?_⟩
  (repeat (first | exact HB | refine Below.setCell ?_ (by dsimp only; omega) _ | refine Below.alloc ?_ (by have hs_ := HB.size; first | (simp; done) | (simp; omega) | omega) _ | apply Below.drew))
set_option maxHeartbeats 800000 in
theorem rCast_not (vk bits : Int) (tx s s2 : ByteArray) (k l k2 l2 : Int) (h0 : 0 ≤ bits) (h1 : bits < 18446744073709551616) (hr : rightB vk bits tx k l = true) (hc : castsB k l k2 l2 = false) (w : World) :
    Calls Try.prog 63 #[.agg #[.int .i64 vk, .int .u64 bits, .string tx], .agg #[.string s, .int .i64 k, .int .i64 l], .agg #[.string s2, .int .i64 k2, .int .i64 l2]] w fun e w' => e = .returned (.tuple #[.agg #[.int .i64 0, .int .u64 0, .string ⟨#[]⟩], .int .i64 51]) ∧ Below w.heap.size w w' := by
  have HB : Below w.heap.size w ((((w.alloc (.cells #[.int .i64 vk, .int .u64 bits, .string tx] 27)).alloc (.cells #[.string s, .int .i64 k, .int .i64 l] 24)).alloc (.cells #[.string s2, .int .i64 k2, .int .i64 l2] 24)).alloc (.cells #[.int .i64 0, .int .u64 0, .string ⟨#[]⟩] 27)) := (((below_new _).alloc (by simp) _).alloc (by simp; omega) _).alloc (by simp; omega) _
  have hss := setCell_twice
  have HR := Lib.hid hr
  have HC := Lib.hid hc
  clear hr hc
  go_enter Try.func63, Try.ntmps63
  go_wp2_with (first
    | (go_at_call 32; refine (rRight_is5 _ _ _ _ _ _ h0 h1 _ HR.out _).mono ?_; rintro e w1 ⟨rfl, hb⟩; obtain ⟨hc, hf⟩ := bcell hb; obtain ⟨z0, z1, z2, z3⟩ : w.heap.size < w1.heap.size ∧ w.heap.size + 1 < w1.heap.size ∧ w.heap.size + 1 + 1 < w1.heap.size ∧ w.heap.size + 1 + 1 + 1 < w1.heap.size := (by have hz_ := hb.size; (try simp at hz_); omega); have n_ : Below w.heap.size w _ := below_seq (by repeat (first | exact HB | refine Below.setCell ?_ (by dsimp only; omega) _ | refine Below.alloc ?_ (by have hs_ := HB.size; first | (simp; done) | (simp; omega) | omega) _ | apply Below.drew)) hb; clear HB; have HB := n_; clear n_)
    | (go_at_call 31; refine (rCasts_is _ _ _ _ _ _ _ HC.out _).mono ?_; rintro e w2 ⟨rfl, hb⟩; obtain ⟨hc, hf⟩ := bcell hb; obtain ⟨z0, z1, z2, z3⟩ : w.heap.size < w2.heap.size ∧ w.heap.size + 1 < w2.heap.size ∧ w.heap.size + 1 + 1 < w2.heap.size ∧ w.heap.size + 1 + 1 + 1 < w2.heap.size := (by have hz_ := hb.size; (try simp at hz_); omega); have n_ : Below w.heap.size w _ := below_seq (by repeat (first | exact HB | refine Below.setCell ?_ (by dsimp only; omega) _ | refine Below.alloc ?_ (by have hs_ := HB.size; first | (simp; done) | (simp; omega) | omega) _ | apply Below.drew)) hb; clear HB; have HB := n_; clear n_))
  refine bodyPost_ret (v := .tuple #[.agg #[.int .i64 0, .int .u64 0, .string (⟨#[]⟩ : ByteArray)], .int .i64 51]) (by simp [results, Try.results63, go_sem, *]) rfl ⟨rfl, ?_⟩
  (repeat (first | exact HB | refine Below.setCell ?_ (by dsimp only; omega) _ | refine Below.alloc ?_ (by have hs_ := HB.size; first | (simp; done) | (simp; omega) | omega) _ | apply Below.drew))
set_option maxHeartbeats 1600000 in
theorem rCast_a (vk bits : Int) (tx s s2 : ByteArray) (k l k2 l2 : Int) (h0 : 0 ≤ bits) (h1 : bits < 18446744073709551616) (hr : rightB vk bits tx k l = true) (hc : castsB k l k2 l2 = true) (a12 : (k2 == 12) = false) (a10 : (k2 == 10) = true) (b4 : decide (k ≤ 4) = true) (hb : 1 ≤ k) (w : World) :
    Calls Try.prog 63 #[.agg #[.int .i64 vk, .int .u64 bits, .string tx], .agg #[.string s, .int .i64 k, .int .i64 l], .agg #[.string s2, .int .i64 k2, .int .i64 l2]] w fun e w' => e = .returned (.tuple #[.agg #[.int .i64 k2, .int .u64 (castZ bits k k2), .string ⟨#[]⟩], .int .i64 0]) ∧ Below w.heap.size w w' := by
  have HB : Below w.heap.size w ((((w.alloc (.cells #[.int .i64 vk, .int .u64 bits, .string tx] 27)).alloc (.cells #[.string s, .int .i64 k, .int .i64 l] 24)).alloc (.cells #[.string s2, .int .i64 k2, .int .i64 l2] 24)).alloc (.cells #[.int .i64 0, .int .u64 0, .string ⟨#[]⟩] 27)) := (((below_new _).alloc (by simp) _).alloc (by simp; omega) _).alloc (by simp; omega) _
  have hss := setCell_twice
  have HR := Lib.hid hr
  have HC := Lib.hid hc
  have e : castZ bits k k2 = fBits false bits.toNat := by rw [castZ, if_pos ⟨by simpa using a10, btw_iff.2 ⟨hb, by simpa using b4⟩⟩]
  obtain ⟨z, hz⟩ : ∃ z : Int, (fBits false bits.toNat : Int) = z := ⟨_, rfl⟩
  rw [hz] at e
  rw [e]
  have F1 : Hid (refF bits.toNat false = z) := Lib.hid ((refF_plain _).trans hz)
  have a8 : (k2 == 8) = false := by simp at a10 ⊢; omega
  have b5 : decide (5 ≤ k) = false := by simp at b4 ⊢; omega
  clear e hz hb
  clear hr hc
  go_enter Try.func63, Try.ntmps63
  go_wp2_with (first
    | (go_at_call 32; refine (rRight_is5 _ _ _ _ _ _ h0 h1 _ HR.out _).mono ?_; rintro e w1 ⟨rfl, hb⟩; obtain ⟨hc, hf⟩ := bcell hb; obtain ⟨z0, z1, z2, z3⟩ : w.heap.size < w1.heap.size ∧ w.heap.size + 1 < w1.heap.size ∧ w.heap.size + 1 + 1 < w1.heap.size ∧ w.heap.size + 1 + 1 + 1 < w1.heap.size := (by have hz_ := hb.size; (try simp at hz_); omega); have n_ : Below w.heap.size w _ := below_seq (by repeat (first | exact HB | refine Below.setCell ?_ (by dsimp only; omega) _ | refine Below.alloc ?_ (by have hs_ := HB.size; first | (simp; done) | (simp; omega) | omega) _ | apply Below.drew)) hb; clear HB; have HB := n_; clear n_)
    | (go_at_call 31; refine (rCasts_is _ _ _ _ _ _ _ HC.out _).mono ?_; rintro e w2 ⟨rfl, hb⟩; obtain ⟨hc, hf⟩ := bcell hb; obtain ⟨z0, z1, z2, z3⟩ : w.heap.size < w2.heap.size ∧ w.heap.size + 1 < w2.heap.size ∧ w.heap.size + 1 + 1 < w2.heap.size ∧ w.heap.size + 1 + 1 + 1 < w2.heap.size := (by have hz_ := hb.size; (try simp at hz_); omega); have n_ : Below w.heap.size w _ := below_seq (by repeat (first | exact HB | refine Below.setCell ?_ (by dsimp only; omega) _ | refine Below.alloc ?_ (by have hs_ := HB.size; first | (simp; done) | (simp; omega) | omega) _ | apply Below.drew)) hb; clear HB; have HB := n_; clear n_)
    | (go_at_call 76; refine (rFloat_calls _ _ (by omega) (by omega) _).mono ?_; rintro e w' ⟨rfl, rfl⟩; rw [F1.out]))
  refine bodyPost_ret (v := .tuple #[.agg #[.int .i64 k2, .int .u64 z, .string (⟨#[]⟩ : ByteArray)], .int .i64 0]) (by simp [results, Try.results63, go_sem, *]) rfl ⟨rfl, ?_⟩
  (repeat (first | exact HB | refine Below.setCell ?_ (by dsimp only; omega) _ | refine Below.alloc ?_ (by have hs_ := HB.size; first | (simp; done) | (simp; omega) | omega) _ | apply Below.drew))
set_option maxHeartbeats 1600000 in
theorem rCast_b (vk bits : Int) (tx s s2 : ByteArray) (k l k2 l2 : Int) (h0 : 0 ≤ bits) (h1 : bits < 18446744073709551616) (hr : rightB vk bits tx k l = true) (hc : castsB k l k2 l2 = true) (a12 : (k2 == 12) = false) (a10 : (k2 == 10) = true) (b4 : decide (k ≤ 4) = false) (b8 : decide (k ≤ 8) = true) (hs : decide (9223372036854775808 ≤ bits) = false) (w : World) :
    Calls Try.prog 63 #[.agg #[.int .i64 vk, .int .u64 bits, .string tx], .agg #[.string s, .int .i64 k, .int .i64 l], .agg #[.string s2, .int .i64 k2, .int .i64 l2]] w fun e w' => e = .returned (.tuple #[.agg #[.int .i64 k2, .int .u64 (castZ bits k k2), .string ⟨#[]⟩], .int .i64 0]) ∧ Below w.heap.size w w' := by
  have HB : Below w.heap.size w ((((w.alloc (.cells #[.int .i64 vk, .int .u64 bits, .string tx] 27)).alloc (.cells #[.string s, .int .i64 k, .int .i64 l] 24)).alloc (.cells #[.string s2, .int .i64 k2, .int .i64 l2] 24)).alloc (.cells #[.int .i64 0, .int .u64 0, .string ⟨#[]⟩] 27)) := (((below_new _).alloc (by simp) _).alloc (by simp; omega) _).alloc (by simp; omega) _
  have hss := setCell_twice
  have HR := Lib.hid hr
  have HC := Lib.hid hc
  have e : castZ bits k k2 = fBits false bits.toNat := by
    simp at a10 b4 b8 hs
    rw [castZ, if_neg (by simp [btw]; omega), if_pos ⟨a10, btw_iff.2 ⟨by omega, b8⟩⟩, if_neg (by omega)]
  obtain ⟨z, hz⟩ : ∃ z : Int, (fBits false bits.toNat : Int) = z := ⟨_, rfl⟩
  rw [hz] at e
  rw [e]
  have F1 : Hid (refF bits.toNat false = z) := Lib.hid ((refF_plain _).trans hz)
  have a8 : (k2 == 8) = false := by simp at a10 ⊢; omega
  have b5 : decide (5 ≤ k) = true := by simp at b4 ⊢; omega
  clear e hz
  clear hr hc
  go_enter Try.func63, Try.ntmps63
  go_wp2_with (first
    | (go_at_call 32; refine (rRight_is5 _ _ _ _ _ _ h0 h1 _ HR.out _).mono ?_; rintro e w1 ⟨rfl, hb⟩; obtain ⟨hc, hf⟩ := bcell hb; obtain ⟨z0, z1, z2, z3⟩ : w.heap.size < w1.heap.size ∧ w.heap.size + 1 < w1.heap.size ∧ w.heap.size + 1 + 1 < w1.heap.size ∧ w.heap.size + 1 + 1 + 1 < w1.heap.size := (by have hz_ := hb.size; (try simp at hz_); omega); have n_ : Below w.heap.size w _ := below_seq (by repeat (first | exact HB | refine Below.setCell ?_ (by dsimp only; omega) _ | refine Below.alloc ?_ (by have hs_ := HB.size; first | (simp; done) | (simp; omega) | omega) _ | apply Below.drew)) hb; clear HB; have HB := n_; clear n_)
    | (go_at_call 31; refine (rCasts_is _ _ _ _ _ _ _ HC.out _).mono ?_; rintro e w2 ⟨rfl, hb⟩; obtain ⟨hc, hf⟩ := bcell hb; obtain ⟨z0, z1, z2, z3⟩ : w.heap.size < w2.heap.size ∧ w.heap.size + 1 < w2.heap.size ∧ w.heap.size + 1 + 1 < w2.heap.size ∧ w.heap.size + 1 + 1 + 1 < w2.heap.size := (by have hz_ := hb.size; (try simp at hz_); omega); have n_ : Below w.heap.size w _ := below_seq (by repeat (first | exact HB | refine Below.setCell ?_ (by dsimp only; omega) _ | refine Below.alloc ?_ (by have hs_ := HB.size; first | (simp; done) | (simp; omega) | omega) _ | apply Below.drew)) hb; clear HB; have HB := n_; clear n_)
    | (go_at_call 76; refine (rFloat_calls _ _ (by omega) (by omega) _).mono ?_; rintro e w' ⟨rfl, rfl⟩; rw [F1.out]))
  refine bodyPost_ret (v := .tuple #[.agg #[.int .i64 k2, .int .u64 z, .string (⟨#[]⟩ : ByteArray)], .int .i64 0]) (by simp [results, Try.results63, go_sem, *]) rfl ⟨rfl, ?_⟩
  (repeat (first | exact HB | refine Below.setCell ?_ (by dsimp only; omega) _ | refine Below.alloc ?_ (by have hs_ := HB.size; first | (simp; done) | (simp; omega) | omega) _ | apply Below.drew))
set_option maxHeartbeats 1600000 in
theorem rCast_c (vk bits : Int) (tx s s2 : ByteArray) (k l k2 l2 : Int) (h0 : 0 ≤ bits) (h1 : bits < 18446744073709551616) (hr : rightB vk bits tx k l = true) (hc : castsB k l k2 l2 = true) (a12 : (k2 == 12) = false) (a10 : (k2 == 10) = true) (b4 : decide (k ≤ 4) = false) (b8 : decide (k ≤ 8) = true) (hs : decide (9223372036854775808 ≤ bits) = true) (w : World) :
    Calls Try.prog 63 #[.agg #[.int .i64 vk, .int .u64 bits, .string tx], .agg #[.string s, .int .i64 k, .int .i64 l], .agg #[.string s2, .int .i64 k2, .int .i64 l2]] w fun e w' => e = .returned (.tuple #[.agg #[.int .i64 k2, .int .u64 (castZ bits k k2), .string ⟨#[]⟩], .int .i64 0]) ∧ Below w.heap.size w w' := by
  have HB : Below w.heap.size w ((((w.alloc (.cells #[.int .i64 vk, .int .u64 bits, .string tx] 27)).alloc (.cells #[.string s, .int .i64 k, .int .i64 l] 24)).alloc (.cells #[.string s2, .int .i64 k2, .int .i64 l2] 24)).alloc (.cells #[.int .i64 0, .int .u64 0, .string ⟨#[]⟩] 27)) := (((below_new _).alloc (by simp) _).alloc (by simp; omega) _).alloc (by simp; omega) _
  have hss := setCell_twice
  have HR := Lib.hid hr
  have HC := Lib.hid hc
  have e : castZ bits k k2 = fBits true (18446744073709551616 - bits).toNat := by
    simp at a10 b4 b8 hs
    rw [castZ, if_neg (by simp [btw]; omega), if_pos ⟨a10, btw_iff.2 ⟨by omega, b8⟩⟩, if_pos (by omega)]
  obtain ⟨z, hz⟩ : ∃ z : Int, (fBits true (18446744073709551616 - bits).toNat : Int) = z := ⟨_, rfl⟩
  rw [hz] at e
  rw [e]
  have hng : IntKind.wrap .u64 (-bits) = 18446744073709551616 - bits := by simp at hs; simp [IntKind.wrap, IntKind.signed, IntKind.bits]; omega
  have hs' : 9223372036854775808 ≤ bits := by simpa using hs
  obtain ⟨z0, F1⟩ : ∃ z0, Hid (refF bits.toNat false = z0) := ⟨_, Lib.hid rfl⟩
  have F2 : Hid (refF (18446744073709551616 - bits).toNat true = z) := Lib.hid ((refF_minus _ (by omega)).trans hz)
  have a8 : (k2 == 8) = false := by simp at a10 ⊢; omega
  have b5 : decide (5 ≤ k) = true := by simp at b4 ⊢; omega
  clear e hz
  clear hr hc
  go_enter Try.func63, Try.ntmps63
  go_wp2_with (first
    | (go_at_call 32; refine (rRight_is5 _ _ _ _ _ _ h0 h1 _ HR.out _).mono ?_; rintro e w1 ⟨rfl, hb⟩; obtain ⟨hc, hf⟩ := bcell hb; obtain ⟨z0, z1, z2, z3⟩ : w.heap.size < w1.heap.size ∧ w.heap.size + 1 < w1.heap.size ∧ w.heap.size + 1 + 1 < w1.heap.size ∧ w.heap.size + 1 + 1 + 1 < w1.heap.size := (by have hz_ := hb.size; (try simp at hz_); omega); have n_ : Below w.heap.size w _ := below_seq (by repeat (first | exact HB | refine Below.setCell ?_ (by dsimp only; omega) _ | refine Below.alloc ?_ (by have hs_ := HB.size; first | (simp; done) | (simp; omega) | omega) _ | apply Below.drew)) hb; clear HB; have HB := n_; clear n_)
    | (go_at_call 31; refine (rCasts_is _ _ _ _ _ _ _ HC.out _).mono ?_; rintro e w2 ⟨rfl, hb⟩; obtain ⟨hc, hf⟩ := bcell hb; obtain ⟨z0, z1, z2, z3⟩ : w.heap.size < w2.heap.size ∧ w.heap.size + 1 < w2.heap.size ∧ w.heap.size + 1 + 1 < w2.heap.size ∧ w.heap.size + 1 + 1 + 1 < w2.heap.size := (by have hz_ := hb.size; (try simp at hz_); omega); have n_ : Below w.heap.size w _ := below_seq (by repeat (first | exact HB | refine Below.setCell ?_ (by dsimp only; omega) _ | refine Below.alloc ?_ (by have hs_ := HB.size; first | (simp; done) | (simp; omega) | omega) _ | apply Below.drew)) hb; clear HB; have HB := n_; clear n_)
    | (go_at_call 76; refine (rFloat_calls _ _ (by omega) (by omega) _).mono ?_; rintro e w' ⟨rfl, rfl⟩; (first | rw [F1.out] | rw [F2.out])))
  refine bodyPost_ret (v := .tuple #[.agg #[.int .i64 k2, .int .u64 z, .string (⟨#[]⟩ : ByteArray)], .int .i64 0]) (by simp [results, Try.results63, go_sem, *]) rfl ⟨rfl, ?_⟩
  (repeat (first | exact HB | refine Below.setCell ?_ (by dsimp only; omega) _ | refine Below.alloc ?_ (by have hs_ := HB.size; first | (simp; done) | (simp; omega) | omega) _ | apply Below.drew))
set_option maxHeartbeats 1600000 in
theorem rCast_d (vk bits : Int) (tx s s2 : ByteArray) (k l k2 l2 : Int) (h0 : 0 ≤ bits) (h1 : bits < 18446744073709551616) (hr : rightB vk bits tx k l = true) (hc : castsB k l k2 l2 = true) (a12 : (k2 == 12) = false) (a10 : (k2 == 10) = true) (b4 : decide (k ≤ 4) = false) (b8 : decide (k ≤ 8) = false) (w : World) :
    Calls Try.prog 63 #[.agg #[.int .i64 vk, .int .u64 bits, .string tx], .agg #[.string s, .int .i64 k, .int .i64 l], .agg #[.string s2, .int .i64 k2, .int .i64 l2]] w fun e w' => e = .returned (.tuple #[.agg #[.int .i64 k2, .int .u64 (castZ bits k k2), .string ⟨#[]⟩], .int .i64 0]) ∧ Below w.heap.size w w' := by
  have HB : Below w.heap.size w ((((w.alloc (.cells #[.int .i64 vk, .int .u64 bits, .string tx] 27)).alloc (.cells #[.string s, .int .i64 k, .int .i64 l] 24)).alloc (.cells #[.string s2, .int .i64 k2, .int .i64 l2] 24)).alloc (.cells #[.int .i64 0, .int .u64 0, .string ⟨#[]⟩] 27)) := (((below_new _).alloc (by simp) _).alloc (by simp; omega) _).alloc (by simp; omega) _
  have hss := setCell_twice
  have HR := Lib.hid hr
  have HC := Lib.hid hc
  have e : castZ bits k k2 = bits := by
    simp at a10 b4 b8
    rw [castZ, if_neg (by simp [btw]; omega), if_neg (by simp [btw]; omega), if_neg (by omega)]
  rw [e]
  have a8 : (k2 == 8) = false := by simp at a10 ⊢; omega
  have b5 : decide (5 ≤ k) = true := by simp at b4 ⊢; omega
  clear e
  clear hr hc
  go_enter Try.func63, Try.ntmps63
  go_wp2_with (first
    | (go_at_call 32; refine (rRight_is5 _ _ _ _ _ _ h0 h1 _ HR.out _).mono ?_; rintro e w1 ⟨rfl, hb⟩; obtain ⟨hc, hf⟩ := bcell hb; obtain ⟨z0, z1, z2, z3⟩ : w.heap.size < w1.heap.size ∧ w.heap.size + 1 < w1.heap.size ∧ w.heap.size + 1 + 1 < w1.heap.size ∧ w.heap.size + 1 + 1 + 1 < w1.heap.size := (by have hz_ := hb.size; (try simp at hz_); omega); have n_ : Below w.heap.size w _ := below_seq (by repeat (first | exact HB | refine Below.setCell ?_ (by dsimp only; omega) _ | refine Below.alloc ?_ (by have hs_ := HB.size; first | (simp; done) | (simp; omega) | omega) _ | apply Below.drew)) hb; clear HB; have HB := n_; clear n_)
    | (go_at_call 31; refine (rCasts_is _ _ _ _ _ _ _ HC.out _).mono ?_; rintro e w2 ⟨rfl, hb⟩; obtain ⟨hc, hf⟩ := bcell hb; obtain ⟨z0, z1, z2, z3⟩ : w.heap.size < w2.heap.size ∧ w.heap.size + 1 < w2.heap.size ∧ w.heap.size + 1 + 1 < w2.heap.size ∧ w.heap.size + 1 + 1 + 1 < w2.heap.size := (by have hz_ := hb.size; (try simp at hz_); omega); have n_ : Below w.heap.size w _ := below_seq (by repeat (first | exact HB | refine Below.setCell ?_ (by dsimp only; omega) _ | refine Below.alloc ?_ (by have hs_ := HB.size; first | (simp; done) | (simp; omega) | omega) _ | apply Below.drew)) hb; clear HB; have HB := n_; clear n_))
  refine bodyPost_ret (v := .tuple #[.agg #[.int .i64 k2, .int .u64 bits, .string (⟨#[]⟩ : ByteArray)], .int .i64 0]) (by simp [results, Try.results63, go_sem, *]) rfl ⟨rfl, ?_⟩
  (repeat (first | exact HB | refine Below.setCell ?_ (by dsimp only; omega) _ | refine Below.alloc ?_ (by have hs_ := HB.size; first | (simp; done) | (simp; omega) | omega) _ | apply Below.drew))
set_option maxHeartbeats 1600000 in
theorem rCast_e (vk bits : Int) (tx s s2 : ByteArray) (k l k2 l2 : Int) (h0 : 0 ≤ bits) (h1 : bits < 18446744073709551616) (hr : rightB vk bits tx k l = true) (hc : castsB k l k2 l2 = true) (a12 : (k2 == 12) = false) (a10 : (k2 == 10) = false) (a8 : (k2 == 8) = true) (b10 : (k == 10) = true) (w : World) :
    Calls Try.prog 63 #[.agg #[.int .i64 vk, .int .u64 bits, .string tx], .agg #[.string s, .int .i64 k, .int .i64 l], .agg #[.string s2, .int .i64 k2, .int .i64 l2]] w fun e w' => e = .returned (.tuple #[.agg #[.int .i64 k2, .int .u64 (castZ bits k k2), .string ⟨#[]⟩], .int .i64 0]) ∧ Below w.heap.size w w' := by
  have HB : Below w.heap.size w ((((w.alloc (.cells #[.int .i64 vk, .int .u64 bits, .string tx] 27)).alloc (.cells #[.string s, .int .i64 k, .int .i64 l] 24)).alloc (.cells #[.string s2, .int .i64 k2, .int .i64 l2] 24)).alloc (.cells #[.int .i64 0, .int .u64 0, .string ⟨#[]⟩] 27)) := (((below_new _).alloc (by simp) _).alloc (by simp; omega) _).alloc (by simp; omega) _
  have hss := setCell_twice
  have HR := Lib.hid hr
  have HC := Lib.hid hc
  have e : castZ bits k k2 = wholeZ bits.toNat % 18446744073709551616 := by
    simp at a10 a8 b10
    rw [castZ, if_neg (by omega), if_neg (by omega), if_pos ⟨a8, b10⟩]
  obtain ⟨z, hz⟩ : ∃ z : Int, wholeZ bits.toNat = z := ⟨_, rfl⟩
  rw [hz] at e
  rw [e]
  have HW := Lib.hid hz
  have hwr : IntKind.wrap .u64 z = z % 18446744073709551616 := by simp [IntKind.wrap, IntKind.signed, go_sem]
  clear e hz
  clear hr hc
  go_enter Try.func63, Try.ntmps63
  go_wp2_with (first
    | (go_at_call 32; refine (rRight_is5 _ _ _ _ _ _ h0 h1 _ HR.out _).mono ?_; rintro e w1 ⟨rfl, hb⟩; obtain ⟨hc, hf⟩ := bcell hb; obtain ⟨z0, z1, z2, z3⟩ : w.heap.size < w1.heap.size ∧ w.heap.size + 1 < w1.heap.size ∧ w.heap.size + 1 + 1 < w1.heap.size ∧ w.heap.size + 1 + 1 + 1 < w1.heap.size := (by have hz_ := hb.size; (try simp at hz_); omega); have n_ : Below w.heap.size w _ := below_seq (by repeat (first | exact HB | refine Below.setCell ?_ (by dsimp only; omega) _ | refine Below.alloc ?_ (by have hs_ := HB.size; first | (simp; done) | (simp; omega) | omega) _ | apply Below.drew)) hb; clear HB; have HB := n_; clear n_)
    | (go_at_call 31; refine (rCasts_is _ _ _ _ _ _ _ HC.out _).mono ?_; rintro e w2 ⟨rfl, hb⟩; obtain ⟨hc, hf⟩ := bcell hb; obtain ⟨z0, z1, z2, z3⟩ : w.heap.size < w2.heap.size ∧ w.heap.size + 1 < w2.heap.size ∧ w.heap.size + 1 + 1 < w2.heap.size ∧ w.heap.size + 1 + 1 + 1 < w2.heap.size := (by have hz_ := hb.size; (try simp at hz_); omega); have n_ : Below w.heap.size w _ := below_seq (by repeat (first | exact HB | refine Below.setCell ?_ (by dsimp only; omega) _ | refine Below.alloc ?_ (by have hs_ := HB.size; first | (simp; done) | (simp; omega) | omega) _ | apply Below.drew)) hb; clear HB; have HB := n_; clear n_)
    | (go_at_call 77; refine (rWhole_calls _ (by omega) (by omega) _).mono ?_; rintro e w' ⟨rfl, rfl⟩; rw [HW.out]))
  refine bodyPost_ret (v := .tuple #[.agg #[.int .i64 k2, .int .u64 (z % 18446744073709551616), .string (⟨#[]⟩ : ByteArray)], .int .i64 0]) (by simp [results, Try.results63, go_sem, *]) rfl ⟨rfl, ?_⟩
  (repeat (first | exact HB | refine Below.setCell ?_ (by dsimp only; omega) _ | refine Below.alloc ?_ (by have hs_ := HB.size; first | (simp; done) | (simp; omega) | omega) _ | apply Below.drew))
set_option maxHeartbeats 1600000 in
theorem rCast_f (vk bits : Int) (tx s s2 : ByteArray) (k l k2 l2 : Int) (h0 : 0 ≤ bits) (h1 : bits < 18446744073709551616) (hr : rightB vk bits tx k l = true) (hc : castsB k l k2 l2 = true) (a12 : (k2 == 12) = false) (a10 : (k2 == 10) = false) (a8 : (k2 == 8) = true) (b10 : (k == 10) = false) (w : World) :
    Calls Try.prog 63 #[.agg #[.int .i64 vk, .int .u64 bits, .string tx], .agg #[.string s, .int .i64 k, .int .i64 l], .agg #[.string s2, .int .i64 k2, .int .i64 l2]] w fun e w' => e = .returned (.tuple #[.agg #[.int .i64 k2, .int .u64 (castZ bits k k2), .string ⟨#[]⟩], .int .i64 0]) ∧ Below w.heap.size w w' := by
  have HB : Below w.heap.size w ((((w.alloc (.cells #[.int .i64 vk, .int .u64 bits, .string tx] 27)).alloc (.cells #[.string s, .int .i64 k, .int .i64 l] 24)).alloc (.cells #[.string s2, .int .i64 k2, .int .i64 l2] 24)).alloc (.cells #[.int .i64 0, .int .u64 0, .string ⟨#[]⟩] 27)) := (((below_new _).alloc (by simp) _).alloc (by simp; omega) _).alloc (by simp; omega) _
  have hss := setCell_twice
  have HR := Lib.hid hr
  have HC := Lib.hid hc
  have e : castZ bits k k2 = bits := by
    simp at a10 a8 b10
    rw [castZ, if_neg (by omega), if_neg (by omega), if_neg (by omega)]
  rw [e]
  clear e
  clear hr hc
  go_enter Try.func63, Try.ntmps63
  go_wp2_with (first
    | (go_at_call 32; refine (rRight_is5 _ _ _ _ _ _ h0 h1 _ HR.out _).mono ?_; rintro e w1 ⟨rfl, hb⟩; obtain ⟨hc, hf⟩ := bcell hb; obtain ⟨z0, z1, z2, z3⟩ : w.heap.size < w1.heap.size ∧ w.heap.size + 1 < w1.heap.size ∧ w.heap.size + 1 + 1 < w1.heap.size ∧ w.heap.size + 1 + 1 + 1 < w1.heap.size := (by have hz_ := hb.size; (try simp at hz_); omega); have n_ : Below w.heap.size w _ := below_seq (by repeat (first | exact HB | refine Below.setCell ?_ (by dsimp only; omega) _ | refine Below.alloc ?_ (by have hs_ := HB.size; first | (simp; done) | (simp; omega) | omega) _ | apply Below.drew)) hb; clear HB; have HB := n_; clear n_)
    | (go_at_call 31; refine (rCasts_is _ _ _ _ _ _ _ HC.out _).mono ?_; rintro e w2 ⟨rfl, hb⟩; obtain ⟨hc, hf⟩ := bcell hb; obtain ⟨z0, z1, z2, z3⟩ : w.heap.size < w2.heap.size ∧ w.heap.size + 1 < w2.heap.size ∧ w.heap.size + 1 + 1 < w2.heap.size ∧ w.heap.size + 1 + 1 + 1 < w2.heap.size := (by have hz_ := hb.size; (try simp at hz_); omega); have n_ : Below w.heap.size w _ := below_seq (by repeat (first | exact HB | refine Below.setCell ?_ (by dsimp only; omega) _ | refine Below.alloc ?_ (by have hs_ := HB.size; first | (simp; done) | (simp; omega) | omega) _ | apply Below.drew)) hb; clear HB; have HB := n_; clear n_))
  refine bodyPost_ret (v := .tuple #[.agg #[.int .i64 k2, .int .u64 bits, .string (⟨#[]⟩ : ByteArray)], .int .i64 0]) (by simp [results, Try.results63, go_sem, *]) rfl ⟨rfl, ?_⟩
  (repeat (first | exact HB | refine Below.setCell ?_ (by dsimp only; omega) _ | refine Below.alloc ?_ (by have hs_ := HB.size; first | (simp; done) | (simp; omega) | omega) _ | apply Below.drew))
set_option maxHeartbeats 1600000 in
theorem rCast_g (vk bits : Int) (tx s s2 : ByteArray) (k l k2 l2 : Int) (h0 : 0 ≤ bits) (h1 : bits < 18446744073709551616) (hr : rightB vk bits tx k l = true) (hc : castsB k l k2 l2 = true) (a12 : (k2 == 12) = false) (a10 : (k2 == 10) = false) (a8 : (k2 == 8) = false) (w : World) :
    Calls Try.prog 63 #[.agg #[.int .i64 vk, .int .u64 bits, .string tx], .agg #[.string s, .int .i64 k, .int .i64 l], .agg #[.string s2, .int .i64 k2, .int .i64 l2]] w fun e w' => e = .returned (.tuple #[.agg #[.int .i64 k2, .int .u64 (castZ bits k k2), .string ⟨#[]⟩], .int .i64 0]) ∧ Below w.heap.size w w' := by
  have HB : Below w.heap.size w ((((w.alloc (.cells #[.int .i64 vk, .int .u64 bits, .string tx] 27)).alloc (.cells #[.string s, .int .i64 k, .int .i64 l] 24)).alloc (.cells #[.string s2, .int .i64 k2, .int .i64 l2] 24)).alloc (.cells #[.int .i64 0, .int .u64 0, .string ⟨#[]⟩] 27)) := (((below_new _).alloc (by simp) _).alloc (by simp; omega) _).alloc (by simp; omega) _
  have hss := setCell_twice
  have HR := Lib.hid hr
  have HC := Lib.hid hc
  have e : castZ bits k k2 = bits := by
    simp at a10 a8
    rw [castZ, if_neg (by omega), if_neg (by omega), if_neg (by omega)]
  rw [e]
  clear e
  clear hr hc
  go_enter Try.func63, Try.ntmps63
  go_wp2_with (first
    | (go_at_call 32; refine (rRight_is5 _ _ _ _ _ _ h0 h1 _ HR.out _).mono ?_; rintro e w1 ⟨rfl, hb⟩; obtain ⟨hc, hf⟩ := bcell hb; obtain ⟨z0, z1, z2, z3⟩ : w.heap.size < w1.heap.size ∧ w.heap.size + 1 < w1.heap.size ∧ w.heap.size + 1 + 1 < w1.heap.size ∧ w.heap.size + 1 + 1 + 1 < w1.heap.size := (by have hz_ := hb.size; (try simp at hz_); omega); have n_ : Below w.heap.size w _ := below_seq (by repeat (first | exact HB | refine Below.setCell ?_ (by dsimp only; omega) _ | refine Below.alloc ?_ (by have hs_ := HB.size; first | (simp; done) | (simp; omega) | omega) _ | apply Below.drew)) hb; clear HB; have HB := n_; clear n_)
    | (go_at_call 31; refine (rCasts_is _ _ _ _ _ _ _ HC.out _).mono ?_; rintro e w2 ⟨rfl, hb⟩; obtain ⟨hc, hf⟩ := bcell hb; obtain ⟨z0, z1, z2, z3⟩ : w.heap.size < w2.heap.size ∧ w.heap.size + 1 < w2.heap.size ∧ w.heap.size + 1 + 1 < w2.heap.size ∧ w.heap.size + 1 + 1 + 1 < w2.heap.size := (by have hz_ := hb.size; (try simp at hz_); omega); have n_ : Below w.heap.size w _ := below_seq (by repeat (first | exact HB | refine Below.setCell ?_ (by dsimp only; omega) _ | refine Below.alloc ?_ (by have hs_ := HB.size; first | (simp; done) | (simp; omega) | omega) _ | apply Below.drew)) hb; clear HB; have HB := n_; clear n_))
  refine bodyPost_ret (v := .tuple #[.agg #[.int .i64 k2, .int .u64 bits, .string (⟨#[]⟩ : ByteArray)], .int .i64 0]) (by simp [results, Try.results63, go_sem, *]) rfl ⟨rfl, ?_⟩
  (repeat (first | exact HB | refine Below.setCell ?_ (by dsimp only; omega) _ | refine Below.alloc ?_ (by have hs_ := HB.size; first | (simp; done) | (simp; omega) | omega) _ | apply Below.drew))
end Go.Proofs.Ytehcpjodkadfnaa
