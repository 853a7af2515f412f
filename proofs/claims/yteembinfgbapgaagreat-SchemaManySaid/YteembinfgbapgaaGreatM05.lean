/- Merged out of: Ki Kj Kl Km Ge. -/
import Derived.Test.YteembinfgbapgaaGreatM04
import Derived.Lib.SlBuf
import Derived.Deep.WholeRow
import Derived.Test.YteembinfgbapgaaGreatM02
import Derived.Lib.Hide
/- Layer 5 of the heap, kinds, sixth part: values that are cast. -/
set_option linter.unusedSimpArgs false
set_option linter.unusedVariables false
set_option maxRecDepth 100000
namespace Go.Proofs.YteembinfgbapgaaGreat
open Go.RowKit

/-- the first bytes, or as many 0 behind -/
def padL (l : List UInt8) (n : Nat) : List UInt8 := l.take n ++ List.replicate (n - l.length) 0
theorem padL_length (l : List UInt8) (n : Nat) : (padL l n).length = n := by simp [padL]; omega

theorem copy_new (ty : TypeId) (s : ByteArray) (n : Nat) (V : World) : (Builtin.copy_ #[44, 9] ty #[.slice (some ⟨V.heap.size, 0, none⟩) n n, .string s]).run Tryz.prog (V.alloc (.cells (bytesV (List.replicate n 0)).toArray 5)) =
    .ok (goInt (min s.size n)) (V.alloc (.cells (bytesV (padL (bl s) n)).toArray 5)) := by
  have hg : (V.alloc (.cells (bytesV (List.replicate n 0)).toArray 5)).heap[V.heap.size]? = some (.cells (bytesV (List.replicate n 0)).toArray 5 (0, 0)) := heap_alloc_new V _
  have hlen : (bytesV ((bl s).take n)).length = min s.size n := by simp [bytesV, bl_length]; omega
  have hst := run_storeCells_at Tryz.prog V.heap.size 0 5 (bytesV ((bl s).take n)) 0 _ _ hg (by rw [hlen]; simp [bytesV]; omega) (by intro v hv; obtain ⟨x, _, rfl⟩ := List.mem_map.1 hv; rfl)
  have hmin : Nat.min s.size n = min s.size n := rfl
  have htk : List.take (min s.size n) (List.map (fun b : UInt8 => Value.int IntKind.u8 (b.toNat : Int)) s.data.toList) = bytesV ((bl s).take n) := by
    have := bl_length s
    simp only [bytesV, bl, List.map_take] at this ⊢
    rcases Nat.le_total s.size n with h | h
    · rw [Nat.min_eq_left h, List.take_of_length_le (by rw [List.length_map]; omega), List.take_of_length_le (by rw [List.length_map]; omega)]
    · rw [Nat.min_eq_right h]
  obtain ⟨i, hi, hz0, hz1, hz2⟩ := info_parts info5
  simp [Builtin.copy_, run_underlying Tryz.underlying44, Builtin.lenOf, Builtin.firstCells, sizeOf, typeInfo, hi, hmin]
  rw [htk, hst]
  simp only [Result.andThen]
  have e0 : goInt ((min s.size n : Nat) : Int) = goInt (min (s.size : Int) (n : Int)) := by congr 1; omega
  rw [World.setRow_alloc_new, ← e0]
  congr 1
  congr 2
  apply congrArg
  simp only [Nat.zero_add, List.take_zero, List.nil_append, hlen, padL, bytesV_append]
  congr 1
  simp only [bytesV, List.map_replicate, List.drop_replicate, bl_length]
  congr 1
  omega

theorem plain_is (k : Int) (r : Bool) (h : btw 1 k 4 = r) (w : World) : Calls Tryz.prog 109 #[.int .i64 k] w fun e w' => e = .returned (.bool r) ∧ w = w' := h ▸ plain_calls k w
theorem Casts_is (s s2 : ByteArray) (k l k2 l2 : Int) (r : Bool) (h : castsB k l k2 l2 = r) (w : World) : Calls Tryz.prog 108 #[.agg #[.string s, .int .i64 k, .int .i64 l], .agg #[.string s2, .int .i64 k2, .int .i64 l2]] w fun e w' => e = .returned (.bool r) ∧ Below w.heap.size w w' := h ▸ Casts_calls s s2 k l k2 l2 w

set_option maxHeartbeats 800000 in
theorem Cast_wrong (vk bits : Int) (tx s s2 : ByteArray) (k l k2 l2 : Int) (h0 : 0 ≤ bits) (h1 : bits < 18446744073709551616) (hr : rightB vk bits tx k l = false) (w : World) :
    Calls Tryz.prog 74 #[.agg #[.int .i64 vk, .int .u64 bits, .string tx], .agg #[.string s, .int .i64 k, .int .i64 l], .agg #[.string s2, .int .i64 k2, .int .i64 l2]] w fun e w' => e = .returned (.tuple #[.agg #[.int .i64 0, .int .u64 0, .string (⟨#[]⟩ : ByteArray)], .int .i64 50]) ∧ Below w.heap.size w w' := by
  have HB : Below w.heap.size w (((w.alloc (.cells #[.int .i64 vk, .int .u64 bits, .string tx] 71)).alloc (.cells #[.string s, .int .i64 k, .int .i64 l] 68)).alloc (.cells #[.string s2, .int .i64 k2, .int .i64 l2] 68)) := ((below_new _).alloc (by simp) _).alloc (by simp; omega) _
  have HR := Lib.hid hr
  clear hr
  go_enter Tryz.func74, Tryz.ntmps74
  go_wp2_with (first
    | (go_at_call 95; refine (Right_is _ _ _ _ _ _ h0 h1 _ HR.out _).mono ?_; rintro e w1 ⟨rfl, hb⟩; obtain ⟨hc, hf⟩ := bcell hb; obtain ⟨z0, z1, z2, z3⟩ : w.heap.size < w1.heap.size ∧ w.heap.size + 1 < w1.heap.size ∧ w.heap.size + 1 + 1 < w1.heap.size ∧ w.heap.size + 1 + 1 + 1 < w1.heap.size := (by have hz_ := hb.size; (try simp at hz_); omega); have n_ : Below w.heap.size w _ := below_seq (by repeat (first | exact HB | refine Below.setCell ?_ (by dsimp only; omega) _ | refine Below.alloc ?_ (by have hs_ := HB.size; first | (simp; done) | (simp; omega) | omega) _ | apply Below.drew)) hb; clear HB; have HB := n_; clear n_))
  refine bodyPost_ret (v := .tuple #[.agg #[.int .i64 0, .int .u64 0, .string (⟨#[]⟩ : ByteArray)], .int .i64 50]) (by simp [results, Tryz.results74, go_sem, *]) rfl ⟨rfl, ?_⟩
  (repeat (first | exact HB | refine Below.setCell ?_ (by dsimp only; omega) _ | refine Below.alloc ?_ (by have hs_ := HB.size; first | (simp; done) | (simp; omega) | omega) _ | apply Below.drew))

set_option maxHeartbeats 800000 in
theorem Cast_not (vk bits : Int) (tx s s2 : ByteArray) (k l k2 l2 : Int) (h0 : 0 ≤ bits) (h1 : bits < 18446744073709551616) (hr : rightB vk bits tx k l = true) (hc : castsB k l k2 l2 = false) (w : World) :
    Calls Tryz.prog 74 #[.agg #[.int .i64 vk, .int .u64 bits, .string tx], .agg #[.string s, .int .i64 k, .int .i64 l], .agg #[.string s2, .int .i64 k2, .int .i64 l2]] w fun e w' => e = .returned (.tuple #[.agg #[.int .i64 0, .int .u64 0, .string (⟨#[]⟩ : ByteArray)], .int .i64 51]) ∧ Below w.heap.size w w' := by
  have HB : Below w.heap.size w (((w.alloc (.cells #[.int .i64 vk, .int .u64 bits, .string tx] 71)).alloc (.cells #[.string s, .int .i64 k, .int .i64 l] 68)).alloc (.cells #[.string s2, .int .i64 k2, .int .i64 l2] 68)) := ((below_new _).alloc (by simp) _).alloc (by simp; omega) _
  have HR := Lib.hid hr
  have HC := Lib.hid hc
  clear hr hc
  go_enter Tryz.func74, Tryz.ntmps74
  go_wp2_with (first
    | (go_at_call 95; refine (Right_is _ _ _ _ _ _ h0 h1 _ HR.out _).mono ?_; rintro e w1 ⟨rfl, hb⟩; obtain ⟨hc, hf⟩ := bcell hb; obtain ⟨z0, z1, z2, z3⟩ : w.heap.size < w1.heap.size ∧ w.heap.size + 1 < w1.heap.size ∧ w.heap.size + 1 + 1 < w1.heap.size ∧ w.heap.size + 1 + 1 + 1 < w1.heap.size := (by have hz_ := hb.size; (try simp at hz_); omega); have n_ : Below w.heap.size w _ := below_seq (by repeat (first | exact HB | refine Below.setCell ?_ (by dsimp only; omega) _ | refine Below.alloc ?_ (by have hs_ := HB.size; first | (simp; done) | (simp; omega) | omega) _ | apply Below.drew)) hb; clear HB; have HB := n_; clear n_)
    | (go_at_call 108; refine (Casts_is _ _ _ _ _ _ _ HC.out _).mono ?_; rintro e w2 ⟨rfl, hb⟩; obtain ⟨hc, hf⟩ := bcell hb; obtain ⟨z0, z1, z2, z3⟩ : w.heap.size < w2.heap.size ∧ w.heap.size + 1 < w2.heap.size ∧ w.heap.size + 1 + 1 < w2.heap.size ∧ w.heap.size + 1 + 1 + 1 < w2.heap.size := (by have hz_ := hb.size; (try simp at hz_); omega); have n_ : Below w.heap.size w _ := below_seq (by repeat (first | exact HB | refine Below.setCell ?_ (by dsimp only; omega) _ | refine Below.alloc ?_ (by have hs_ := HB.size; first | (simp; done) | (simp; omega) | omega) _ | apply Below.drew)) hb; clear HB; have HB := n_; clear n_))
  refine bodyPost_ret (v := .tuple #[.agg #[.int .i64 0, .int .u64 0, .string (⟨#[]⟩ : ByteArray)], .int .i64 51]) (by simp [results, Tryz.results74, go_sem, *]) rfl ⟨rfl, ?_⟩
  (repeat (first | exact HB | refine Below.setCell ?_ (by dsimp only; omega) _ | refine Below.alloc ?_ (by have hs_ := HB.size; first | (simp; done) | (simp; omega) | omega) _ | apply Below.drew))

set_option maxHeartbeats 800000 in
theorem Cast_same (vk bits : Int) (tx s s2 : ByteArray) (k l k2 l2 : Int) (h0 : 0 ≤ bits) (h1 : bits < 18446744073709551616) (hr : rightB vk bits tx k l = true) (hc : castsB k l k2 l2 = true) (hk : ¬ k2 = 12) (hf : k2 = 10 → btw 1 k 4 = false ∧ btw 5 k 8 = false) (hi : k2 = 8 → ¬ k = 10) (w : World) :
    Calls Tryz.prog 74 #[.agg #[.int .i64 vk, .int .u64 bits, .string tx], .agg #[.string s, .int .i64 k, .int .i64 l], .agg #[.string s2, .int .i64 k2, .int .i64 l2]] w fun e w' => e = .returned (.tuple #[.agg #[.int .i64 k2, .int .u64 bits, .string (⟨#[]⟩ : ByteArray)], .int .i64 0]) ∧ Below w.heap.size w w' := by
  have HB : Below w.heap.size w (((w.alloc (.cells #[.int .i64 vk, .int .u64 bits, .string tx] 71)).alloc (.cells #[.string s, .int .i64 k, .int .i64 l] 68)).alloc (.cells #[.string s2, .int .i64 k2, .int .i64 l2] 68)) := ((below_new _).alloc (by simp) _).alloc (by simp; omega) _
  have HR := Lib.hid hr
  have HC := Lib.hid hc
  have e12 : (k2 == 12) = false := by simpa using hk
  clear hr hc hk
  by_cases c10 : k2 = 10
  · subst c10
    obtain ⟨p1, p2⟩ := hf rfl
    clear hf hi
    have Q1 := Lib.hid p1
    have Q2 := Lib.hid p2
    clear p1 p2
    go_enter Tryz.func74, Tryz.ntmps74
    go_wp2_with (first
      | (go_at_call 95; refine (Right_is _ _ _ _ _ _ h0 h1 _ HR.out _).mono ?_; rintro e w1 ⟨rfl, hb⟩; obtain ⟨hc, hf⟩ := bcell hb; obtain ⟨z0, z1, z2, z3⟩ : w.heap.size < w1.heap.size ∧ w.heap.size + 1 < w1.heap.size ∧ w.heap.size + 1 + 1 < w1.heap.size ∧ w.heap.size + 1 + 1 + 1 < w1.heap.size := (by have hz_ := hb.size; (try simp at hz_); omega); have n_ : Below w.heap.size w _ := below_seq (by repeat (first | exact HB | refine Below.setCell ?_ (by dsimp only; omega) _ | refine Below.alloc ?_ (by have hs_ := HB.size; first | (simp; done) | (simp; omega) | omega) _ | apply Below.drew)) hb; clear HB; have HB := n_; clear n_)
      | (go_at_call 108; refine (Casts_is _ _ _ _ _ _ _ HC.out _).mono ?_; rintro e w2 ⟨rfl, hb⟩; obtain ⟨hc, hf⟩ := bcell hb; obtain ⟨z0, z1, z2, z3⟩ : w.heap.size < w2.heap.size ∧ w.heap.size + 1 < w2.heap.size ∧ w.heap.size + 1 + 1 < w2.heap.size ∧ w.heap.size + 1 + 1 + 1 < w2.heap.size := (by have hz_ := hb.size; (try simp at hz_); omega); have n_ : Below w.heap.size w _ := below_seq (by repeat (first | exact HB | refine Below.setCell ?_ (by dsimp only; omega) _ | refine Below.alloc ?_ (by have hs_ := HB.size; first | (simp; done) | (simp; omega) | omega) _ | apply Below.drew)) hb; clear HB; have HB := n_; clear n_)
      | (go_at_call 109; refine (plain_is _ _ Q1.out _).mono ?_; rintro e w' ⟨rfl, rfl⟩)
      | (go_at_call 111; refine (signed_is _ _ Q2.out _).mono ?_; rintro e w' ⟨rfl, rfl⟩))
    refine bodyPost_ret (v := .tuple #[.agg #[.int .i64 10, .int .u64 bits, .string (⟨#[]⟩ : ByteArray)], .int .i64 0]) (by simp [results, Tryz.results74, go_sem, *]) rfl ⟨rfl, ?_⟩
    (repeat (first | exact HB | refine Below.setCell ?_ (by dsimp only; omega) _ | refine Below.alloc ?_ (by have hs_ := HB.size; first | (simp; done) | (simp; omega) | omega) _ | apply Below.drew))
  · have e10 : (k2 == 10) = false := by simpa using c10
    clear hf
    by_cases c8 : k2 = 8
    · subst c8
      have ek : (k == 10) = false := by simpa using hi rfl
      clear hi c10
      go_enter Tryz.func74, Tryz.ntmps74
      go_wp2_with (first
        | (go_at_call 95; refine (Right_is _ _ _ _ _ _ h0 h1 _ HR.out _).mono ?_; rintro e w1 ⟨rfl, hb⟩; obtain ⟨hc, hf⟩ := bcell hb; obtain ⟨z0, z1, z2, z3⟩ : w.heap.size < w1.heap.size ∧ w.heap.size + 1 < w1.heap.size ∧ w.heap.size + 1 + 1 < w1.heap.size ∧ w.heap.size + 1 + 1 + 1 < w1.heap.size := (by have hz_ := hb.size; (try simp at hz_); omega); have n_ : Below w.heap.size w _ := below_seq (by repeat (first | exact HB | refine Below.setCell ?_ (by dsimp only; omega) _ | refine Below.alloc ?_ (by have hs_ := HB.size; first | (simp; done) | (simp; omega) | omega) _ | apply Below.drew)) hb; clear HB; have HB := n_; clear n_)
        | (go_at_call 108; refine (Casts_is _ _ _ _ _ _ _ HC.out _).mono ?_; rintro e w2 ⟨rfl, hb⟩; obtain ⟨hc, hf⟩ := bcell hb; obtain ⟨z0, z1, z2, z3⟩ : w.heap.size < w2.heap.size ∧ w.heap.size + 1 < w2.heap.size ∧ w.heap.size + 1 + 1 < w2.heap.size ∧ w.heap.size + 1 + 1 + 1 < w2.heap.size := (by have hz_ := hb.size; (try simp at hz_); omega); have n_ : Below w.heap.size w _ := below_seq (by repeat (first | exact HB | refine Below.setCell ?_ (by dsimp only; omega) _ | refine Below.alloc ?_ (by have hs_ := HB.size; first | (simp; done) | (simp; omega) | omega) _ | apply Below.drew)) hb; clear HB; have HB := n_; clear n_))
      refine bodyPost_ret (v := .tuple #[.agg #[.int .i64 8, .int .u64 bits, .string (⟨#[]⟩ : ByteArray)], .int .i64 0]) (by simp [results, Tryz.results74, go_sem, *]) rfl ⟨rfl, ?_⟩
      (repeat (first | exact HB | refine Below.setCell ?_ (by dsimp only; omega) _ | refine Below.alloc ?_ (by have hs_ := HB.size; first | (simp; done) | (simp; omega) | omega) _ | apply Below.drew))
    · have e8 : (k2 == 8) = false := by simpa using c8
      clear hi c10 c8
      go_enter Tryz.func74, Tryz.ntmps74
      go_wp2_with (first
        | (go_at_call 95; refine (Right_is _ _ _ _ _ _ h0 h1 _ HR.out _).mono ?_; rintro e w1 ⟨rfl, hb⟩; obtain ⟨hc, hf⟩ := bcell hb; obtain ⟨z0, z1, z2, z3⟩ : w.heap.size < w1.heap.size ∧ w.heap.size + 1 < w1.heap.size ∧ w.heap.size + 1 + 1 < w1.heap.size ∧ w.heap.size + 1 + 1 + 1 < w1.heap.size := (by have hz_ := hb.size; (try simp at hz_); omega); have n_ : Below w.heap.size w _ := below_seq (by repeat (first | exact HB | refine Below.setCell ?_ (by dsimp only; omega) _ | refine Below.alloc ?_ (by have hs_ := HB.size; first | (simp; done) | (simp; omega) | omega) _ | apply Below.drew)) hb; clear HB; have HB := n_; clear n_)
        | (go_at_call 108; refine (Casts_is _ _ _ _ _ _ _ HC.out _).mono ?_; rintro e w2 ⟨rfl, hb⟩; obtain ⟨hc, hf⟩ := bcell hb; obtain ⟨z0, z1, z2, z3⟩ : w.heap.size < w2.heap.size ∧ w.heap.size + 1 < w2.heap.size ∧ w.heap.size + 1 + 1 < w2.heap.size ∧ w.heap.size + 1 + 1 + 1 < w2.heap.size := (by have hz_ := hb.size; (try simp at hz_); omega); have n_ : Below w.heap.size w _ := below_seq (by repeat (first | exact HB | refine Below.setCell ?_ (by dsimp only; omega) _ | refine Below.alloc ?_ (by have hs_ := HB.size; first | (simp; done) | (simp; omega) | omega) _ | apply Below.drew)) hb; clear HB; have HB := n_; clear n_))
      refine bodyPost_ret (v := .tuple #[.agg #[.int .i64 k2, .int .u64 bits, .string (⟨#[]⟩ : ByteArray)], .int .i64 0]) (by simp [results, Tryz.results74, go_sem, *]) rfl ⟨rfl, ?_⟩
      (repeat (first | exact HB | refine Below.setCell ?_ (by dsimp only; omega) _ | refine Below.alloc ?_ (by have hs_ := HB.size; first | (simp; done) | (simp; omega) | omega) _ | apply Below.drew))


theorem floatOf_pos (n : Int) (h0 : 0 ≤ n) (h1 : n < 18446744073709551616) : floatOfInt .f64 n = fBits false n.toNat := by
  have e : floatOfInt .f64 n = Ieee.Format.nearest Ieee.double (decide (n < 0)) n.natAbs 0 := rfl
  rw [e, show decide (n < 0) = false by simpa using h0, show n.natAbs = n.toNat by omega]
  refine nearest_bits _ _ ?_
  by_cases hz : n.toNat = 0
  · rw [hz]; decide
  · have : n.toNat.log2 < 64 := by rw [Nat.log2_lt hz]; omega
    omega
theorem floatOf_neg (n : Int) (h0 : n < 0) (h1 : -18446744073709551616 < n) : floatOfInt .f64 n = fBits true (-n).toNat := by
  have e : floatOfInt .f64 n = Ieee.Format.nearest Ieee.double (decide (n < 0)) n.natAbs 0 := rfl
  rw [e, show decide (n < 0) = true by simpa using h0, show n.natAbs = (-n).toNat by omega]
  refine nearest_bits _ _ ?_
  have hz : (-n).toNat ≠ 0 := by omega
  have : (-n).toNat.log2 < 64 := by rw [Nat.log2_lt hz]; omega
  omega
/-- the bits of a number that is cast -/
def castZ (bits k k2 : Int) : Int :=
  if k2 = 10 ∧ btw 1 k 4 = true then (fBits false bits.toNat : Int)
  else if k2 = 10 ∧ btw 5 k 8 = true then (if 9223372036854775808 ≤ bits then (fBits true (18446744073709551616 - bits).toNat : Int) else (fBits false bits.toNat : Int))
  else if k2 = 8 ∧ k = 10 then wholeZ bits.toNat % 18446744073709551616 else bits

set_option maxHeartbeats 800000 in
theorem Cast_plain (vk bits : Int) (tx s s2 : ByteArray) (k l l2 : Int) (h0 : 0 ≤ bits) (h1 : bits < 18446744073709551616) (hr : rightB vk bits tx k l = true) (hc : castsB k l 10 l2 = true) (hp : btw 1 k 4 = true) (w : World) :
    Calls Tryz.prog 74 #[.agg #[.int .i64 vk, .int .u64 bits, .string tx], .agg #[.string s, .int .i64 k, .int .i64 l], .agg #[.string s2, .int .i64 10, .int .i64 l2]] w fun e w' => e = .returned (.tuple #[.agg #[.int .i64 10, .int .u64 (castZ bits k 10), .string (⟨#[]⟩ : ByteArray)], .int .i64 0]) ∧ Below w.heap.size w w' := by
  have HB : Below w.heap.size w (((w.alloc (.cells #[.int .i64 vk, .int .u64 bits, .string tx] 71)).alloc (.cells #[.string s, .int .i64 k, .int .i64 l] 68)).alloc (.cells #[.string s2, .int .i64 10, .int .i64 l2] 68)) := ((below_new _).alloc (by simp) _).alloc (by simp; omega) _
  have HR := Lib.hid hr
  have HC := Lib.hid hc
  clear hr hc
  have e : castZ bits k 10 = (floatOfInt .f64 bits : Int) := by rw [castZ, if_pos ⟨rfl, hp⟩, floatOf_pos bits h0 h1]
  rw [e]
  have Q1 := Lib.hid hp
  clear hp e
  have hcf := bits_run
  go_enter Tryz.func74, Tryz.ntmps74
  go_wp2_with (first
    | (go_at_call 95; refine (Right_is _ _ _ _ _ _ h0 h1 _ HR.out _).mono ?_; rintro e w1 ⟨rfl, hb⟩; obtain ⟨hc, hf⟩ := bcell hb; obtain ⟨z0, z1, z2, z3⟩ : w.heap.size < w1.heap.size ∧ w.heap.size + 1 < w1.heap.size ∧ w.heap.size + 1 + 1 < w1.heap.size ∧ w.heap.size + 1 + 1 + 1 < w1.heap.size := (by have hz_ := hb.size; (try simp at hz_); omega); have n_ : Below w.heap.size w _ := below_seq (by repeat (first | exact HB | refine Below.setCell ?_ (by dsimp only; omega) _ | refine Below.alloc ?_ (by have hs_ := HB.size; first | (simp; done) | (simp; omega) | omega) _ | apply Below.drew)) hb; clear HB; have HB := n_; clear n_)
    | (go_at_call 108; refine (Casts_is _ _ _ _ _ _ _ HC.out _).mono ?_; rintro e w2 ⟨rfl, hb⟩; obtain ⟨hc, hf⟩ := bcell hb; obtain ⟨z0, z1, z2, z3⟩ : w.heap.size < w2.heap.size ∧ w.heap.size + 1 < w2.heap.size ∧ w.heap.size + 1 + 1 < w2.heap.size ∧ w.heap.size + 1 + 1 + 1 < w2.heap.size := (by have hz_ := hb.size; (try simp at hz_); omega); have n_ : Below w.heap.size w _ := below_seq (by repeat (first | exact HB | refine Below.setCell ?_ (by dsimp only; omega) _ | refine Below.alloc ?_ (by have hs_ := HB.size; first | (simp; done) | (simp; omega) | omega) _ | apply Below.drew)) hb; clear HB; have HB := n_; clear n_)
    | (go_at_call 109; refine (plain_is _ _ Q1.out _).mono ?_; rintro e w' ⟨rfl, rfl⟩))
  refine bodyPost_ret (v := .tuple #[.agg #[.int .i64 10, .int .u64 ((floatOfInt .f64 bits : Int)), .string (⟨#[]⟩ : ByteArray)], .int .i64 0]) (by simp [results, Tryz.results74, go_sem, *]) rfl ⟨rfl, ?_⟩
  (repeat (first | exact HB | refine Below.setCell ?_ (by dsimp only; omega) _ | refine Below.alloc ?_ (by have hs_ := HB.size; first | (simp; done) | (simp; omega) | omega) _ | apply Below.drew))

set_option maxHeartbeats 800000 in
theorem Cast_signed (vk bits : Int) (tx s s2 : ByteArray) (k l l2 : Int) (h0 : 0 ≤ bits) (h1 : bits < 18446744073709551616) (hr : rightB vk bits tx k l = true) (hc : castsB k l 10 l2 = true) (hp : btw 5 k 8 = true) (w : World) :
    Calls Tryz.prog 74 #[.agg #[.int .i64 vk, .int .u64 bits, .string tx], .agg #[.string s, .int .i64 k, .int .i64 l], .agg #[.string s2, .int .i64 10, .int .i64 l2]] w fun e w' => e = .returned (.tuple #[.agg #[.int .i64 10, .int .u64 (castZ bits k 10), .string (⟨#[]⟩ : ByteArray)], .int .i64 0]) ∧ Below w.heap.size w w' := by
  have HB : Below w.heap.size w (((w.alloc (.cells #[.int .i64 vk, .int .u64 bits, .string tx] 71)).alloc (.cells #[.string s, .int .i64 k, .int .i64 l] 68)).alloc (.cells #[.string s2, .int .i64 10, .int .i64 l2] 68)) := ((below_new _).alloc (by simp) _).alloc (by simp; omega) _
  have HR := Lib.hid hr
  have HC := Lib.hid hc
  clear hr hc
  have hp1 : btw 1 k 4 = false := by have := btw_iff.1 hp; rw [btw_not]; omega
  have e : castZ bits k 10 = (floatOfInt .f64 (wrap64 bits) : Int) := by
    rw [castZ, if_neg (by rw [hp1]; simp), if_pos ⟨rfl, hp⟩]
    by_cases hb : 9223372036854775808 ≤ bits
    · rw [if_pos hb, show wrap64 bits = bits - 18446744073709551616 by unfold wrap64; omega, floatOf_neg _ (by omega) (by omega), show (-(bits - 18446744073709551616)).toNat = (18446744073709551616 - bits).toNat by omega]
    · rw [if_neg hb, show wrap64 bits = bits by unfold wrap64; omega, floatOf_pos _ h0 h1]
  rw [e]
  have Q1 := Lib.hid hp1
  have Q2 := Lib.hid hp
  clear hp e hp1
  have hcf := bits_run
  go_enter Tryz.func74, Tryz.ntmps74
  go_wp2_with (first
    | (go_at_call 95; refine (Right_is _ _ _ _ _ _ h0 h1 _ HR.out _).mono ?_; rintro e w1 ⟨rfl, hb⟩; obtain ⟨hc, hf⟩ := bcell hb; obtain ⟨z0, z1, z2, z3⟩ : w.heap.size < w1.heap.size ∧ w.heap.size + 1 < w1.heap.size ∧ w.heap.size + 1 + 1 < w1.heap.size ∧ w.heap.size + 1 + 1 + 1 < w1.heap.size := (by have hz_ := hb.size; (try simp at hz_); omega); have n_ : Below w.heap.size w _ := below_seq (by repeat (first | exact HB | refine Below.setCell ?_ (by dsimp only; omega) _ | refine Below.alloc ?_ (by have hs_ := HB.size; first | (simp; done) | (simp; omega) | omega) _ | apply Below.drew)) hb; clear HB; have HB := n_; clear n_)
    | (go_at_call 108; refine (Casts_is _ _ _ _ _ _ _ HC.out _).mono ?_; rintro e w2 ⟨rfl, hb⟩; obtain ⟨hc, hf⟩ := bcell hb; obtain ⟨z0, z1, z2, z3⟩ : w.heap.size < w2.heap.size ∧ w.heap.size + 1 < w2.heap.size ∧ w.heap.size + 1 + 1 < w2.heap.size ∧ w.heap.size + 1 + 1 + 1 < w2.heap.size := (by have hz_ := hb.size; (try simp at hz_); omega); have n_ : Below w.heap.size w _ := below_seq (by repeat (first | exact HB | refine Below.setCell ?_ (by dsimp only; omega) _ | refine Below.alloc ?_ (by have hs_ := HB.size; first | (simp; done) | (simp; omega) | omega) _ | apply Below.drew)) hb; clear HB; have HB := n_; clear n_)
    | (go_at_call 109; refine (plain_is _ _ Q1.out _).mono ?_; rintro e w' ⟨rfl, rfl⟩)
    | (go_at_call 111; refine (signed_is _ _ Q2.out _).mono ?_; rintro e w' ⟨rfl, rfl⟩))
  refine bodyPost_ret (v := .tuple #[.agg #[.int .i64 10, .int .u64 ((floatOfInt .f64 (wrap64 bits) : Int)), .string (⟨#[]⟩ : ByteArray)], .int .i64 0]) (by simp [results, Tryz.results74, go_sem, *]) rfl ⟨rfl, ?_⟩
  (repeat (first | exact HB | refine Below.setCell ?_ (by dsimp only; omega) _ | refine Below.alloc ?_ (by have hs_ := HB.size; first | (simp; done) | (simp; omega) | omega) _ | apply Below.drew))

set_option maxHeartbeats 800000 in
theorem Cast_whole (vk bits : Int) (tx s s2 : ByteArray) (l l2 : Int) (h0 : 0 ≤ bits) (h1 : bits < 18446744073709551616) (hr : rightB vk bits tx 10 l = true) (hc : castsB 10 l 8 l2 = true) (w : World) :
    Calls Tryz.prog 74 #[.agg #[.int .i64 vk, .int .u64 bits, .string tx], .agg #[.string s, .int .i64 10, .int .i64 l], .agg #[.string s2, .int .i64 8, .int .i64 l2]] w fun e w' => e = .returned (.tuple #[.agg #[.int .i64 8, .int .u64 (castZ bits 10 8), .string (⟨#[]⟩ : ByteArray)], .int .i64 0]) ∧ Below w.heap.size w w' := by
  have HB : Below w.heap.size w (((w.alloc (.cells #[.int .i64 vk, .int .u64 bits, .string tx] 71)).alloc (.cells #[.string s, .int .i64 10, .int .i64 l] 68)).alloc (.cells #[.string s2, .int .i64 8, .int .i64 l2] 68)) := ((below_new _).alloc (by simp) _).alloc (by simp; omega) _
  have HR := Lib.hid hr
  have HC := Lib.hid hc
  clear hr hc
  have e : castZ bits 10 8 = wholeZ bits.toNat % 18446744073709551616 := by simp [castZ]
  rw [e]
  clear e
  obtain ⟨z, hz⟩ : ∃ z, wholeZ bits.toNat = z := ⟨_, rfl⟩
  rw [hz]
  have HZ := Lib.hid hz
  clear hz
  have e3 : IntKind.u64.wrap z = z % 18446744073709551616 := IntKind.wrap_u64 z
  go_enter Tryz.func74, Tryz.ntmps74
  go_wp2_with (first
    | (go_at_call 95; refine (Right_is _ _ _ _ _ _ h0 h1 _ HR.out _).mono ?_; rintro e w1 ⟨rfl, hb⟩; obtain ⟨hc, hf⟩ := bcell hb; obtain ⟨z0, z1, z2, z3⟩ : w.heap.size < w1.heap.size ∧ w.heap.size + 1 < w1.heap.size ∧ w.heap.size + 1 + 1 < w1.heap.size ∧ w.heap.size + 1 + 1 + 1 < w1.heap.size := (by have hz_ := hb.size; (try simp at hz_); omega); have n_ : Below w.heap.size w _ := below_seq (by repeat (first | exact HB | refine Below.setCell ?_ (by dsimp only; omega) _ | refine Below.alloc ?_ (by have hs_ := HB.size; first | (simp; done) | (simp; omega) | omega) _ | apply Below.drew)) hb; clear HB; have HB := n_; clear n_)
    | (go_at_call 108; refine (Casts_is _ _ _ _ _ _ _ HC.out _).mono ?_; rintro e w2 ⟨rfl, hb⟩; obtain ⟨hc, hf⟩ := bcell hb; obtain ⟨z0, z1, z2, z3⟩ : w.heap.size < w2.heap.size ∧ w.heap.size + 1 < w2.heap.size ∧ w.heap.size + 1 + 1 < w2.heap.size ∧ w.heap.size + 1 + 1 + 1 < w2.heap.size := (by have hz_ := hb.size; (try simp at hz_); omega); have n_ : Below w.heap.size w _ := below_seq (by repeat (first | exact HB | refine Below.setCell ?_ (by dsimp only; omega) _ | refine Below.alloc ?_ (by have hs_ := HB.size; first | (simp; done) | (simp; omega) | omega) _ | apply Below.drew)) hb; clear HB; have HB := n_; clear n_)
    | (go_at_call 112; refine (Whole_calls bits h0 h1 _).mono ?_; rw [HZ.out]; rintro e w3 ⟨rfl, hb⟩; obtain ⟨hc, hf⟩ := bcell hb; obtain ⟨z0, z1, z2, z3⟩ : w.heap.size < w3.heap.size ∧ w.heap.size + 1 < w3.heap.size ∧ w.heap.size + 1 + 1 < w3.heap.size ∧ w.heap.size + 1 + 1 + 1 < w3.heap.size := (by have hz_ := hb.size; (try simp at hz_); omega); obtain y0 : w2.heap.size < w3.heap.size := (by have hz_ := hb.size; (try simp at hz_); omega); have n_ : Below w.heap.size w _ := below_seq (by repeat (first | exact HB | refine Below.setCell ?_ (by dsimp only; omega) _ | refine Below.alloc ?_ (by have hs_ := HB.size; first | (simp; done) | (simp; omega) | omega) _ | apply Below.drew)) hb; clear HB; have HB := n_; clear n_))
  refine bodyPost_ret (v := .tuple #[.agg #[.int .i64 8, .int .u64 (z % 18446744073709551616), .string (⟨#[]⟩ : ByteArray)], .int .i64 0]) (by simp [results, Tryz.results74, go_sem, *]) rfl ⟨rfl, ?_⟩
  (repeat (first | exact HB | refine Below.setCell ?_ (by dsimp only; omega) _ | refine Below.alloc ?_ (by have hs_ := HB.size; first | (simp; done) | (simp; omega) | omega) _ | apply Below.drew))

end Go.Proofs.YteembinfgbapgaaGreat
/- Layer 5 of the heap, kinds, seventh part: bytes that are cast; every cast. -/
set_option linter.unusedSimpArgs false
set_option linter.unusedVariables false
set_option maxRecDepth 100000
namespace Go.Proofs.YteembinfgbapgaaGreat
open Go.RowKit

theorem casts_12 {k l l2 : Int} (h : castsB k l 12 l2 = true) : k = 12 ∧ mayB 12 l2 = true := by
  unfold castsB at h
  split at h
  · cases h
  · rename_i hz
    have hm : mayB 12 l2 = true := by
      by_cases hm : mayB 12 l2 = true
      · exact hm
      · exfalso; apply hz; right; simp [longZ, hm]
    refine ⟨?_, hm⟩
    simpa [btw] using h

set_option maxHeartbeats 800000 in
theorem Cast_bytes (vk bits : Int) (tx s s2 : ByteArray) (k l : Int) (n : Nat) (h0 : 0 ≤ bits) (h1 : bits < 18446744073709551616) (hr : rightB vk bits tx k l = true) (hc : castsB k l 12 n = true) (w : World) :
    Calls Tryz.prog 74 #[.agg #[.int .i64 vk, .int .u64 bits, .string tx], .agg #[.string s, .int .i64 k, .int .i64 l], .agg #[.string s2, .int .i64 12, .int .i64 n]] w fun e w' => e = .returned (.tuple #[.agg #[.int .i64 12, .int .u64 bits, .string (strL (padL (bl tx) n))], .int .i64 0]) ∧ Below w.heap.size w w' := by
  have HB : Below w.heap.size w (((w.alloc (.cells #[.int .i64 vk, .int .u64 bits, .string tx] 71)).alloc (.cells #[.string s, .int .i64 k, .int .i64 l] 68)).alloc (.cells #[.string s2, .int .i64 12, .int .i64 n] 68)) := ((below_new _).alloc (by simp) _).alloc (by simp; omega) _
  have hn : n ≤ 64 := by have := btw_iff.1 (mayB_12 ▸ (casts_12 hc).2); omega
  have HR := Lib.hid hr
  have HC := Lib.hid hc
  clear hr hc
  have hmk := make_bytes n (by omega)
  have hcy : ∀ (W : World) (o : Obj), (Builtin.copy_ #[44, 9] 3 #[.slice (some ⟨W.heap.size + 1, 0, none⟩) n n, .string tx]).run Tryz.prog ((W.alloc o).alloc (.cells (bytesV (List.replicate n 0)).toArray 5)) =
      .ok (goInt (min tx.size n)) ((W.alloc o).alloc (.cells (bytesV (padL (bl tx) n)).toArray 5)) := fun W o => by simpa using copy_new 3 tx n (W.alloc o)
  have hcv : ∀ (W : World) (o : Obj), (convert 44 9 (.slice (some ⟨W.heap.size + 1, 0, none⟩) n n)).run Tryz.prog ((W.alloc o).alloc (.cells (bytesV (padL (bl tx) n)).toArray 5)) = .ok (.string (strL (padL (bl tx) n))) ((W.alloc o).alloc (.cells (bytesV (padL (bl tx) n)).toArray 5)) := fun W o => by
    have := conv_str (rd_new (W.alloc o) (bytesV (padL (bl tx) n)) 5) n
    simpa [padL_length] using this
  go_enter Tryz.func74, Tryz.ntmps74
  go_wp2_with (first
    | (go_at_call 95; refine (Right_is _ _ _ _ _ _ h0 h1 _ HR.out _).mono ?_; rintro e w1 ⟨rfl, hb⟩; obtain ⟨hc, hf⟩ := bcell hb; obtain ⟨z0, z1, z2, z3⟩ : w.heap.size < w1.heap.size ∧ w.heap.size + 1 < w1.heap.size ∧ w.heap.size + 1 + 1 < w1.heap.size ∧ w.heap.size + 1 + 1 + 1 < w1.heap.size := (by have hz_ := hb.size; (try simp at hz_); omega); have n_ : Below w.heap.size w _ := below_seq (by repeat (first | exact HB | refine Below.setCell ?_ (by dsimp only; omega) _ | refine Below.alloc ?_ (by have hs_ := HB.size; first | (simp; done) | (simp; omega) | omega) _ | apply Below.drew)) hb; clear HB; have HB := n_; clear n_)
    | (go_at_call 108; refine (Casts_is _ _ _ _ _ _ _ HC.out _).mono ?_; rintro e w2 ⟨rfl, hb⟩; obtain ⟨hc, hf⟩ := bcell hb; obtain ⟨z0, z1, z2, z3⟩ : w.heap.size < w2.heap.size ∧ w.heap.size + 1 < w2.heap.size ∧ w.heap.size + 1 + 1 < w2.heap.size ∧ w.heap.size + 1 + 1 + 1 < w2.heap.size := (by have hz_ := hb.size; (try simp at hz_); omega); have n_ : Below w.heap.size w _ := below_seq (by repeat (first | exact HB | refine Below.setCell ?_ (by dsimp only; omega) _ | refine Below.alloc ?_ (by have hs_ := HB.size; first | (simp; done) | (simp; omega) | omega) _ | apply Below.drew)) hb; clear HB; have HB := n_; clear n_))
  refine bodyPost_ret (v := .tuple #[.agg #[.int .i64 12, .int .u64 bits, .string (strL (padL (bl tx) n))], .int .i64 0]) (by simp [results, Tryz.results74, go_sem, *]) rfl ⟨rfl, ?_⟩
  (repeat (first | exact HB | refine Below.setCell ?_ (by dsimp only; omega) _ | refine Below.alloc ?_ (by have hs_ := HB.size; first | (simp; done) | (simp; omega) | omega) _ | apply Below.drew))

def castT (tx : ByteArray) (k2 l2 : Int) : ByteArray := if k2 = 12 then strL (padL (bl tx) l2.toNat) else ⟨#[]⟩
def castV (vk bits : Int) (tx : ByteArray) (k l k2 l2 : Int) : Value := if rightB vk bits tx k l = true ∧ castsB k l k2 l2 = true then .agg #[.int .i64 k2, .int .u64 (castZ bits k k2), .string (castT tx k2 l2)] else .agg #[.int .i64 0, .int .u64 0, .string ⟨#[]⟩]
def castE (vk bits : Int) (tx : ByteArray) (k l k2 l2 : Int) : Int := if rightB vk bits tx k l = true then (if castsB k l k2 l2 = true then 0 else 51) else 50

theorem Cast_calls (vk bits : Int) (tx s s2 : ByteArray) (k l k2 l2 : Int) (h0 : 0 ≤ bits) (h1 : bits < 18446744073709551616) (w : World) :
    Calls Tryz.prog 74 #[.agg #[.int .i64 vk, .int .u64 bits, .string tx], .agg #[.string s, .int .i64 k, .int .i64 l], .agg #[.string s2, .int .i64 k2, .int .i64 l2]] w fun e w' => e = .returned (.tuple #[castV vk bits tx k l k2 l2, .int .i64 (castE vk bits tx k l k2 l2)]) ∧ Below w.heap.size w w' := by
  by_cases hr : rightB vk bits tx k l = true
  · by_cases hc : castsB k l k2 l2 = true
    · rw [castV, if_pos ⟨hr, hc⟩, castE, if_pos hr, if_pos hc]
      by_cases hk : k2 = 12
      · subst hk
        have h12 := casts_12 hc
        have hb := btw_iff.1 (mayB_12 ▸ h12.2)
        obtain ⟨n, rfl⟩ : ∃ n : Nat, l2 = n := ⟨l2.toNat, by omega⟩
        have e1 : castZ bits k 12 = bits := by simp [castZ]
        rw [castT, if_pos rfl, e1]
        exact Cast_bytes vk bits tx s s2 k l n h0 h1 hr hc w
      · rw [castT, if_neg hk]
        by_cases c1 : k2 = 10 ∧ btw 1 k 4 = true
        · obtain ⟨rfl, hp⟩ := c1
          exact Cast_plain vk bits tx s s2 k l l2 h0 h1 hr hc hp w
        · by_cases c2 : k2 = 10 ∧ btw 5 k 8 = true
          · obtain ⟨rfl, hp⟩ := c2
            exact Cast_signed vk bits tx s s2 k l l2 h0 h1 hr hc hp w
          · by_cases c3 : k2 = 8 ∧ k = 10
            · obtain ⟨rfl, rfl⟩ := c3
              exact Cast_whole vk bits tx s s2 l l2 h0 h1 hr hc w
            · rw [castZ, if_neg c1, if_neg c2, if_neg c3]
              exact Cast_same vk bits tx s s2 k l k2 l2 h0 h1 hr hc hk (fun e => ⟨by rw [← Bool.not_eq_true]; exact fun h => c1 ⟨e, h⟩, by rw [← Bool.not_eq_true]; exact fun h => c2 ⟨e, h⟩⟩) (fun e h => c3 ⟨e, h⟩) w
    · rw [castV, if_neg (fun h => hc h.2), castE, if_pos hr, if_neg hc]
      exact Cast_not vk bits tx s s2 k l k2 l2 h0 h1 hr (by simpa using hc) w
  · rw [castV, if_neg (fun h => hr h.1), castE, if_neg hr]
    exact Cast_wrong vk bits tx s s2 k l k2 l2 h0 h1 (by simpa using hr) w
end Go.Proofs.YteembinfgbapgaaGreat
/- Layer 5's reference, second part: zero values, bytes of values, values of bytes. -/
set_option linter.unusedSimpArgs false
set_option linter.unusedVariables false
set_option maxRecDepth 100000
namespace Go.Proofs.YteembinfgbapgaaGreat
open Go.RowKit

theorem FBox.far {w : World} {b : Nat} {s : ByteArray} {k l : Int} (h : FBox w b s k l) {p : Addr} (hp : p.block ≠ b) (v : Value) : FBox (w.setCell p v) b s k l :=
  ⟨(World.cell?_setCell_far w p _ v hp).trans h.1, (World.cell?_setCell_far w p _ v hp).trans h.2.1, (World.cell?_setCell_far w p _ v hp).trans h.2.2⟩
theorem VBox.far {w : World} {b : Nat} {k x : Int} {t : ByteArray} (h : VBox w b k x t) {p : Addr} (hp : p.block ≠ b) (v : Value) : VBox (w.setCell p v) b k x t :=
  ⟨(World.cell?_setCell_far w p _ v hp).trans h.1, (World.cell?_setCell_far w p _ v hp).trans h.2.1, (World.cell?_setCell_far w p _ v hp).trans h.2.2⟩
theorem VBox.text {w : World} {b : Nat} {k x : Int} {t : ByteArray} (h : VBox w b k x t) (t' : ByteArray) : VBox (w.setCell ⟨b, 2, none⟩ (.string t')) b k x t' :=
  ⟨(World.cell?_setCell_other w _ _ _ (by simp)).trans h.1, (World.cell?_setCell_other w _ _ _ (by simp)).trans h.2.1, World.cell?_setCell_same w _ _ h.2.2⟩

end Go.Proofs.YteembinfgbapgaaGreat
/- Layer 5's reference, third part: values of bytes. -/
set_option linter.unusedSimpArgs false
set_option linter.unusedVariables false
set_option maxRecDepth 100000
namespace Go.Proofs.YteembinfgbapgaaGreat
open Go.RowKit

theorem byteZ_nat (n i : Nat) : byteZ (n : Int) i = ((n / 2 ^ (8 * i) % 256 : Nat) : Int) := by
  unfold byteZ
  rw [Int.natCast_emod, Int.natCast_ediv, Int.natCast_pow]
  rfl
end Go.Proofs.YteembinfgbapgaaGreat
/- Layer 6 of the heap, fields, fifth part: which fields may be. -/
set_option linter.unusedSimpArgs false
set_option linter.unusedVariables false
set_option maxRecDepth 100000
namespace Go.Proofs.YteembinfgbapgaaGreat
open Go.RowKit

theorem long_zero (k l : Int) : longZ k l = 0 ↔ mayB k l = false := by
  cases hm : mayB k l
  · simp [longZ, hm]
  · simp only [Bool.true_eq_false, iff_false]
    by_cases hk : k = 12
    · subst hk
      have := btw_iff.1 (mayB_12 ▸ hm)
      rw [long_12 hm]; omega
    · have := long_cases hm hk; omega
theorem long_ge (k l : Int) : 0 ≤ longZ k l ∧ longZ k l ≤ 64 := by
  cases hm : mayB k l
  · have := (long_zero k l).2 hm; omega
  · by_cases hk : k = 12
    · subst hk
      have := btw_iff.1 (mayB_12 ▸ hm)
      rw [long_12 hm]; omega
    · have := long_cases hm hk; omega
def okF (fs : List Fd) (i : Nat) (f : Fd) : Bool := nameB f.s && mayB f.k f.l && decide (findZ fs f.s = i)
/-- which fields may be -/
def rightF (fs : List Fd) : Bool := decide (∀ i, ∀ h : i < fs.length, okF fs i (fs[i]'h) = true) && decide (fs.length ≤ 16)
theorem rightF_bad {fs : List Fd} {i : Nat} {f : Fd} (hi : fs[i]? = some f) (h : okF fs i f = false) : rightF fs = false := by
  rw [rightF, decide_eq_false, Bool.false_and]
  intro ha
  obtain ⟨hi1, hi2⟩ := List.getElem?_eq_some_iff.1 hi
  have := ha i hi1
  rw [hi2, h] at this; cases this
theorem rightF_end {fs : List Fd} (h : ∀ i f, i < fs.length → fs[i]? = some f → okF fs i f = true) : rightF fs = decide (fs.length ≤ 16) := by
  rw [rightF, decide_eq_true (fun i hi => h i _ hi (List.getElem?_eq_getElem hi)), Bool.true_and]
theorem Name_is (s : ByteArray) (r : Bool) (h : nameB s = r) (w : World) : Calls Tryz.prog 50 #[.string s] w fun e w' => e = .returned (.bool r) ∧ Below w.heap.size w w' := h ▸ Name_calls s w
theorem Find_is (A : Option Addr) (c : Nat) (fs : List Fd) (nm : ByteArray) (r : Int) (h : findZ fs nm = r) (w : World) (hA : Rd w A (cellsF fs)) (hl : fs.length ≤ 9223372036854775807) :
    Calls Tryz.prog 96 #[.slice A fs.length c, .string nm] w fun e w' => e = .returned (.int .i64 r) ∧ Below w.heap.size w w' := h ▸ Find_calls A c fs nm w hA hl
/-- a field that is read in a row -/
theorem Rd.fld {w : World} {A : Option Addr} {fs : List Fd} (h : Rd w A (cellsF fs)) {k : Nat} {f : Fd} (hf : fs[k]? = some f) : ∃ ad, A = some ad ∧ w.cell? (ad.add (k * 3)) = some (.string f.s) ∧ w.cell? ⟨(ad.add (k * 3)).block, (ad.add (k * 3)).off + (0 + 1), none⟩ = some (.int .i64 f.k) ∧ w.cell? ⟨(ad.add (k * 3)).block, (ad.add (k * 3)).off + (1 + 1), none⟩ = some (.int .i64 f.l) := by
  obtain ⟨g0, g1, g2⟩ := cellsF_get fs k f hf
  obtain ⟨ad, rfl, h0⟩ := h.at g0
  obtain ⟨_, e1, h1⟩ := h.at g1
  obtain ⟨_, e2, h2⟩ := h.at g2
  cases e1; cases e2
  rw [add_part _ _ 0] at h1
  rw [add_part _ _ 1] at h2
  exact ⟨ad, rfl, h0, h1, h2⟩
theorem okF_split (fs : List Fd) (k : Nat) (f : Fd) : okF fs k f = false ∧ nameB f.s = false ∨ okF fs k f = false ∧ nameB f.s = true ∧ mayB f.k f.l = false ∨ okF fs k f = false ∧ nameB f.s = true ∧ mayB f.k f.l = true ∧ ¬ findZ fs f.s = k ∨ okF fs k f = true ∧ nameB f.s = true ∧ mayB f.k f.l = true ∧ findZ fs f.s = k := by
  unfold okF
  cases nameB f.s <;> cases mayB f.k f.l <;> by_cases h : findZ fs f.s = k <;> simp [h]
set_option maxHeartbeats 1600000 in
theorem FRight_calls (A : Option Addr) (c : Nat) (fs : List Fd) (w : World) (hA : Rd w A (cellsF fs)) (hl : fs.length ≤ 9223372036854775807) :
    Calls Tryz.prog 62 #[.slice A fs.length c] w fun e w' => e = .returned (.bool (rightF fs)) ∧ Below w.heap.size w w' := by
  obtain ⟨r, hr⟩ : ∃ r, rightF fs = r := ⟨_, rfl⟩
  rw [hr]
  have HR := Lib.hid hr
  clear hr
  go_enter Tryz.func62, Tryz.ntmps62
  go_wp2
  go_loopw [3, 4, 7] (fun _ _ i wr => ∃ k : Nat, k ≤ fs.length ∧ i = .int .i64 k ∧ Below w.heap.size w wr ∧ Hid (∀ i f, i < k → fs[i]? = some f → okF fs i f = true)) (fun _ _ i _ => fs.length - (intOf i).toNat)
  case atStart => exact ⟨0, by omega, rfl, Below.refl _ _, Lib.hid fun i f h => by omega⟩
  case round =>
    obtain ⟨k, hk, rfl, HB, hall⟩ := hrel
    have hAr := hA.below HB
    by_cases hlt : k < fs.length
    · obtain ⟨f, hf⟩ : ∃ f, fs[k]? = some f := ⟨_, List.getElem?_eq_getElem hlt⟩
      obtain ⟨ad, rfl, h0, h1, h2⟩ := hAr.fld hf
      have hB1 := HB.alloc HB.size (.cells #[.string f.s, .int .i64 f.k, .int .i64 f.l] 68)
      have F0 := FBox.new wr f.s f.k f.l
      have hA1 := hAr.below (below_new (.cells #[.string f.s, .int .i64 f.k, .int .i64 f.l] 68))
      clear hA hAr
      rcases okF_split fs k f with ⟨ho, hn⟩ | ⟨ho, hn, hm⟩ | ⟨ho, hn, hm, hz⟩ | ⟨ho, hn, hm, hz⟩
      · obtain rfl : r = false := HR.out.symm.trans (rightF_bad hf ho)
        have HN := Lib.hid hn
        clear ho hn hf HR hA1
        go_wp2_with (go_at_call 50; refine (Name_is _ _ HN.out _).mono ?_; rintro e w1 ⟨rfl, hb1⟩)
        go_ret
        exact ⟨rfl, hB1.trans (hb1.mono hB1.size)⟩
      · obtain rfl : r = false := HR.out.symm.trans (rightF_bad hf ho)
        have HN := Lib.hid hn
        have HL := Lib.hid ((long_zero _ _).2 hm)
        clear ho hn hf HR hA1 hm
        go_wp2_with (first
          | (go_at_call 50; refine (Name_is _ _ HN.out _).mono ?_; rintro e w1 ⟨rfl, hb1⟩; obtain ⟨c0, c1, c2⟩ := F0.below hb1; clear F0)
          | (go_at_call 89; refine (Long_is _ _ _ _ HL.out _).mono ?_; rintro e w2 ⟨rfl, hb2⟩))
        go_ret
        exact ⟨rfl, (hB1.trans (hb1.mono hB1.size)).trans (hb2.mono (Nat.le_trans hB1.size hb1.size))⟩
      · obtain rfl : r = false := HR.out.symm.trans (rightF_bad hf ho)
        have HN := Lib.hid hn
        obtain ⟨z, hz2⟩ : ∃ z, findZ fs f.s = z := ⟨_, rfl⟩
        obtain ⟨y, hy2⟩ : ∃ y, longZ f.k f.l = y := ⟨_, rfl⟩
        have ht : (z != (k : Int)) = true := by rw [← hz2]; simpa using hz
        have hy : (y == 0) = false := by
          rw [← hy2, beq_eq_false_iff_ne]
          intro h; rw [(long_zero _ _).1 h] at hm; cases hm
        have HL := Lib.hid hy2
        have HZ := Lib.hid hz2
        clear ho hn hf HR hm hz hz2 hy2
        go_wp2_with (first
          | (go_at_call 50; refine (Name_is _ _ HN.out _).mono ?_; rintro e w1 ⟨rfl, hb1⟩; obtain ⟨c0, c1, c2⟩ := F0.below hb1; clear F0)
          | (go_at_call 89; refine (Long_is _ _ _ _ HL.out _).mono ?_; rintro e w2 ⟨rfl, hb2⟩; obtain ⟨d0, d1, d2⟩ := FBox.below ⟨c0, c1, c2⟩ hb2; clear c0 c1 c2)
          | (go_at_call 96; refine (Find_is _ _ _ _ _ HZ.out _ ((hA1.below hb1).below hb2) hl).mono ?_; rintro e w3 ⟨rfl, hb3⟩))
        go_ret
        exact ⟨rfl, ((hB1.trans (hb1.mono hB1.size)).trans (hb2.mono (Nat.le_trans hB1.size hb1.size))).trans (hb3.mono (Nat.le_trans hB1.size (Nat.le_trans hb1.size hb2.size)))⟩
      · have hall2 : Hid (∀ i f, i < k + 1 → fs[i]? = some f → okF fs i f = true) := Lib.hid fun i g hi hg => by
          rcases (by omega : i < k ∨ i = k) with h2 | rfl
          · exact hall.out i g h2 hg
          · rw [hf] at hg; cases hg; exact ho
        have HN := Lib.hid hn
        obtain ⟨z, hz2⟩ : ∃ z, findZ fs f.s = z := ⟨_, rfl⟩
        obtain ⟨y, hy2⟩ : ∃ y, longZ f.k f.l = y := ⟨_, rfl⟩
        have ht : (z != (k : Int)) = false := by rw [← hz2, hz]; simp
        have hy : (y == 0) = false := by
          rw [← hy2, beq_eq_false_iff_ne]
          intro h; rw [(long_zero _ _).1 h] at hm; cases hm
        have HL := Lib.hid hy2
        have HZ := Lib.hid hz2
        clear ho hn hf HR hm hz hz2 hy2 hall
        go_wp2_with (first
          | (go_at_call 50; refine (Name_is _ _ HN.out _).mono ?_; rintro e w1 ⟨rfl, hb1⟩; obtain ⟨c0, c1, c2⟩ := F0.below hb1; clear F0)
          | (go_at_call 89; refine (Long_is _ _ _ _ HL.out _).mono ?_; rintro e w2 ⟨rfl, hb2⟩; obtain ⟨d0, d1, d2⟩ := FBox.below ⟨c0, c1, c2⟩ hb2; clear c0 c1 c2)
          | (go_at_call 96; refine (Find_is _ _ _ _ _ HZ.out _ ((hA1.below hb1).below hb2) hl).mono ?_; rintro e w3 ⟨rfl, hb3⟩))
        go_roundw
        case rel => exact ⟨k + 1, by omega, by go_num, ((hB1.trans (hb1.mono hB1.size)).trans (hb2.mono (Nat.le_trans hB1.size hb1.size))).trans (hb3.mono (Nat.le_trans hB1.size (Nat.le_trans hb1.size hb2.size))), hall2⟩
        case measure => simp [intOf]; omega
    · obtain rfl : k = fs.length := by omega
      have hn := rightF_end hall.out
      rw [HR.out] at hn
      subst hn
      clear HR hall hAr hA
      go_wp2
      go_ret
      refine ⟨ret_bool ?_, HB⟩
      rw [Bool.eq_iff_iff]
      simp only [decide_eq_true_eq]
      constructor <;> intro h <;> omega
end Go.Proofs.YteembinfgbapgaaGreat
