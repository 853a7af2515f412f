/- Layer 5 of the heap, kinds, sixth part: values that are cast. -/
import Derived.Test.YtepfabijmhhhcaaKh
import Derived.Lib.SlBuf
import Derived.Deep.WholeRow
set_option linter.unusedSimpArgs false
set_option linter.unusedVariables false
namespace Go.Proofs.Ytepfabijmhhhcaa
open Go.RowKit

/-- the first bytes, or as many 0 behind -/
def padL (l : List UInt8) (n : Nat) : List UInt8 := l.take n ++ List.replicate (n - l.length) 0
theorem padL_length (l : List UInt8) (n : Nat) : (padL l n).length = n := by simp [padL]; omega

theorem copy_new (ty : TypeId) (s : ByteArray) (n : Nat) (V : World) : (Builtin.copy_ #[30, 9] ty #[.slice (some ⟨V.heap.size, 0, none⟩) n n, .string s]).run Try.prog (V.alloc (.cells (bytesV (List.replicate n 0)).toArray 5)) =
    .ok (goInt (min s.size n)) (V.alloc (.cells (bytesV (padL (bl s) n)).toArray 5)) := by
  have hg : (V.alloc (.cells (bytesV (List.replicate n 0)).toArray 5)).heap[V.heap.size]? = some (.cells (bytesV (List.replicate n 0)).toArray 5 (0, 0)) := heap_alloc_new V _
  have hlen : (bytesV ((bl s).take n)).length = min s.size n := by simp [bytesV, bl_length]; omega
  have hst := run_storeCells_at Try.prog V.heap.size 0 5 (bytesV ((bl s).take n)) 0 _ _ hg (by rw [hlen]; simp [bytesV]; omega) (by intro v hv; obtain ⟨x, _, rfl⟩ := List.mem_map.1 hv; rfl)
  have hmin : Nat.min s.size n = min s.size n := rfl
  have htk : List.take (min s.size n) (List.map (fun b : UInt8 => Value.int IntKind.u8 (b.toNat : Int)) s.data.toList) = bytesV ((bl s).take n) := by
    have := bl_length s
    simp only [bytesV, bl, List.map_take] at this ⊢
    rcases Nat.le_total s.size n with h | h
    · rw [Nat.min_eq_left h, List.take_of_length_le (by rw [List.length_map]; omega), List.take_of_length_le (by rw [List.length_map]; omega)]
    · rw [Nat.min_eq_right h]
  obtain ⟨i, hi, hz0, hz1, hz2⟩ := info_parts info5
  simp [Builtin.copy_, run_underlying Try.underlying30, Builtin.lenOf, Builtin.firstCells, sizeOf, typeInfo, hi, hmin]
  rw [htk, hst]
  simp only [Result.andThen]
  have e0 : goInt ((min s.size n : Nat) : Int) = goInt (min (s.size : Int) (n : Int)) := by congr 1; omega
  rw [World.setRow_alloc_new, ← e0]
  congr 1
  congr 2
  apply congrArg
  simp only [Nat.zero_add, List.take_zero, List.nil_append, hlen, padL, bytesV_append]
  congr 1
  simp only [bytesV, List.map_replicate, List.drop_replicate, bl_length]
  congr 1
  omega

theorem floatOf_pos (n : Int) (h0 : 0 ≤ n) (h1 : n < 18446744073709551616) : floatOfInt .f64 n = fBits false n.toNat := by
  have e : floatOfInt .f64 n = Ieee.Format.nearest Ieee.double (decide (n < 0)) n.natAbs 0 := rfl
  rw [e, show decide (n < 0) = false by simpa using h0, show n.natAbs = n.toNat by omega]
  refine nearest_bits _ _ ?_
  by_cases hz : n.toNat = 0
  · rw [hz]; decide
  · have : n.toNat.log2 < 64 := by rw [Nat.log2_lt hz]; omega
    omega
theorem floatOf_neg (n : Int) (h0 : n < 0) (h1 : -18446744073709551616 < n) : floatOfInt .f64 n = fBits true (-n).toNat := by
  have e : floatOfInt .f64 n = Ieee.Format.nearest Ieee.double (decide (n < 0)) n.natAbs 0 := rfl
  rw [e, show decide (n < 0) = true by simpa using h0, show n.natAbs = (-n).toNat by omega]
  refine nearest_bits _ _ ?_
  have hz : (-n).toNat ≠ 0 := by omega
  have : (-n).toNat.log2 < 64 := by rw [Nat.log2_lt hz]; omega
  omega
/-- the bits of a number that is cast -/
def castZ (bits k k2 : Int) : Int :=
  if k2 = 10 ∧ btw 1 k 4 = true then (fBits false bits.toNat : Int)
  else if k2 = 10 ∧ btw 5 k 8 = true then (if 9223372036854775808 ≤ bits then (fBits true (18446744073709551616 - bits).toNat : Int) else (fBits false bits.toNat : Int))
  else if k2 = 8 ∧ k = 10 then wholeZ bits.toNat % 18446744073709551616 else bits

end Go.Proofs.Ytepfabijmhhhcaa
