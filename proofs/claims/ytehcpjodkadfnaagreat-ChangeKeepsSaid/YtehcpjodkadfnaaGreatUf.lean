/- Merged out of: Kh Ki. -/
import Derived.Test.YtehcpjodkadfnaaGreatUd
import Derived.Test.YtehcpjodkadfnaaGreatUe
import Derived.Laws.Externs
import Derived.Deep.DeepCutAuto
import Derived.Lib.SlBuf
import Derived.Deep.WholeRow
/- Layer 5 of the heap, kinds, fifth part: the whole of a float64, and numbers as float64. -/
set_option linter.unusedSimpArgs false
set_option linter.unusedVariables false
set_option maxRecDepth 100000
namespace Go.Proofs.YtehcpjodkadfnaaGreat
open Go.RowKit

theorem frombits_run (b : Int) (w : World) : (callFunc 76 #[.int .u64 b]).run Tryz.prog w = .ok (.value (.float .f64 b.toNat)) w := by
  rw [run_callFunc_extern Tryz.func76 (by kernel_rfl) (by kernel_rfl) (by kernel_rfl) (e := Extern.MathFloatBits.float64frombits) (by rfl)]
  rfl
theorem bits_run (b : Nat) (w : World) : (callFunc 53 #[.float .f64 b]).run Tryz.prog w = .ok (.value (.int .u64 b)) w := by
  rw [run_callFunc_extern Tryz.func53 (by kernel_rfl) (by kernel_rfl) (by kernel_rfl) (e := Extern.MathFloatBits.float64bits) (by rfl)]
  rfl
theorem archTrunc_run (B : Nat) (h : B < 18446744073709551616) (w : World) : ∃ x w', (callFunc 84 #[.float .f64 B]).run Tryz.prog w = .ok (.value (.float .f64 x)) w' ∧ TruncOf B x ∧ ∃ n, w' = w.drewN n := by
  obtain ⟨x, w', h1, h2, h3⟩ := trunc_run Tryz.prog B h w
  refine ⟨x, w', ?_, h2, h3⟩
  rw [run_callFunc_extern Tryz.func84 (by kernel_rfl) (by kernel_rfl) (by kernel_rfl) (e := Extern.MathFloor.toIntegral "math.archTrunc" .zero) (by rfl), h1]
  rfl
theorem Trunc_calls (B : Nat) (h : B < 18446744073709551616) (w : World) : Calls Tryz.prog 75 #[.float .f64 B] w fun e w' => ∃ x, e = .returned (.float .f64 x) ∧ TruncOf B x ∧ ∃ n, w' = w.drewN n := by
  obtain ⟨x, w', h1, h2, h3⟩ := archTrunc_run B h w
  go_enter Tryz.func75, Tryz.ntmps75
  go_wp2
  go_ret
  exact ⟨x, rfl, h2, h3⟩
theorem Whole_calls (b : Int) (h0 : 0 ≤ b) (h1 : b < 18446744073709551616) (w : World) :
    Calls Tryz.prog 55 #[.int .u64 b] w fun e w' => e = .returned (.int .i64 (wholeZ b.toNat)) ∧ Below w.heap.size w w' := by
  have hfb := frombits_run b
  have hB : b.toNat < 18446744073709551616 := by omega
  have hcv := fun (x : Nat) (v : Int) (h : floatToIntVal .f64 x .i64 = some v) (w : World) => run_convert_float_int (P := Tryz.prog) w 91 2 .f64 .i64 x v (by kernel_rfl) Tryz.underlying2 h
  go_enter Tryz.func55, Tryz.ntmps55
  go_upto_region 2 with (go_at_call 75; refine (Trunc_calls b.toNat (by omega) _).mono ?_; rintro e w1 ⟨x, rfl, hx, n, rfl⟩)
  have HB : Below w.heap.size w (w.drewN n) := below_drewN (Below.refl _ _) n
  rcases whole_ways b.toNat x hB hx with ⟨a1, e⟩ | ⟨a1, a2, e⟩ | ⟨a1, a2, a3, e⟩ | ⟨a1, a2, a3, a4⟩
  · have E := Lib.hid e
    have f1 : (FloatKind.f64.format.order x x != some Ordering.eq) = true := by rw [a1]; decide
    clear e a1 hx hcv
    go_wp2
    go_ret
    exact ⟨ret_int E.out.symm, HB⟩
  · have E := Lib.hid e
    have f1 : (FloatKind.f64.format.order x x != some Ordering.eq) = false := by rw [a1]; decide
    have f2 : (FloatKind.f64.format.order x 4890909195324358656 == some Ordering.gt || FloatKind.f64.format.order x 4890909195324358656 == some Ordering.eq) = true := by
      rcases a2 with a2 | a2
      · rw [show FloatKind.f64.format.order x 4890909195324358656 = _ from a2]; decide
      · rw [show FloatKind.f64.format.order x 4890909195324358656 = _ from a2]; decide
    clear e a1 a2 hx hcv
    go_wp2
    all_goals
      go_ret
      exact ⟨ret_int E.out.symm, HB⟩
  · have E := Lib.hid e
    have f1 : (FloatKind.f64.format.order x x != some Ordering.eq) = false := by rw [a1]; decide
    have f2 : (FloatKind.f64.format.order x 4890909195324358656 == some Ordering.gt || FloatKind.f64.format.order x 4890909195324358656 == some Ordering.eq) = false := by
      rw [show FloatKind.f64.format.order x 4890909195324358656 = _ from a2]; decide
    have f3 : (FloatKind.f64.format.order x 14114281232179134464 == some Ordering.lt) = true := by
      rw [show FloatKind.f64.format.order x 14114281232179134464 = _ from a3]; decide
    clear e a1 a2 a3 hx hcv
    go_wp2
    all_goals
      go_ret
      exact ⟨ret_int E.out.symm, HB⟩
  · have f1 : (FloatKind.f64.format.order x x != some Ordering.eq) = false := by rw [a1]; decide
    have f2 : (FloatKind.f64.format.order x 4890909195324358656 == some Ordering.gt || FloatKind.f64.format.order x 4890909195324358656 == some Ordering.eq) = false := by
      rw [show FloatKind.f64.format.order x 4890909195324358656 = _ from a2]; decide
    have f3 : (FloatKind.f64.format.order x 14114281232179134464 == some Ordering.lt) = false := by
      rcases a3 with a3 | a3 <;> rw [show FloatKind.f64.format.order x 14114281232179134464 = _ from a3] <;> decide
    have hcv' := hcv x _ a4
    clear a1 a2 a3 a4 hx hcv
    go_wp2
    go_ways
    all_goals
      go_ret
      exact ⟨rfl, HB⟩
end Go.Proofs.YtehcpjodkadfnaaGreat
/- Layer 5 of the heap, kinds, sixth part: values that are cast. -/
set_option linter.unusedSimpArgs false
set_option linter.unusedVariables false
set_option maxRecDepth 100000
namespace Go.Proofs.YtehcpjodkadfnaaGreat
open Go.RowKit

/-- the first bytes, or as many 0 behind -/
def padL (l : List UInt8) (n : Nat) : List UInt8 := l.take n ++ List.replicate (n - l.length) 0
theorem padL_length (l : List UInt8) (n : Nat) : (padL l n).length = n := by simp [padL]; omega

theorem copy_new (ty : TypeId) (s : ByteArray) (n : Nat) (V : World) : (Builtin.copy_ #[42, 9] ty #[.slice (some ⟨V.heap.size, 0, none⟩) n n, .string s]).run Tryz.prog (V.alloc (.cells (bytesV (List.replicate n 0)).toArray 5)) =
    .ok (goInt (min s.size n)) (V.alloc (.cells (bytesV (padL (bl s) n)).toArray 5)) := by
  have hg : (V.alloc (.cells (bytesV (List.replicate n 0)).toArray 5)).heap[V.heap.size]? = some (.cells (bytesV (List.replicate n 0)).toArray 5 (0, 0)) := heap_alloc_new V _
  have hlen : (bytesV ((bl s).take n)).length = min s.size n := by simp [bytesV, bl_length]; omega
  have hst := run_storeCells_at Tryz.prog V.heap.size 0 5 (bytesV ((bl s).take n)) 0 _ _ hg (by rw [hlen]; simp [bytesV]; omega) (by intro v hv; obtain ⟨x, _, rfl⟩ := List.mem_map.1 hv; rfl)
  have hmin : Nat.min s.size n = min s.size n := rfl
  have htk : List.take (min s.size n) (List.map (fun b : UInt8 => Value.int IntKind.u8 (b.toNat : Int)) s.data.toList) = bytesV ((bl s).take n) := by
    have := bl_length s
    simp only [bytesV, bl, List.map_take] at this ⊢
    rcases Nat.le_total s.size n with h | h
    · rw [Nat.min_eq_left h, List.take_of_length_le (by rw [List.length_map]; omega), List.take_of_length_le (by rw [List.length_map]; omega)]
    · rw [Nat.min_eq_right h]
  obtain ⟨i, hi, hz0, hz1, hz2⟩ := info_parts info5
  simp [Builtin.copy_, run_underlying Tryz.underlying42, Builtin.lenOf, Builtin.firstCells, sizeOf, typeInfo, hi, hmin]
  rw [htk, hst]
  simp only [Result.andThen]
  have e0 : goInt ((min s.size n : Nat) : Int) = goInt (min (s.size : Int) (n : Int)) := by congr 1; omega
  rw [World.setRow_alloc_new, ← e0]
  congr 1
  congr 2
  apply congrArg
  simp only [Nat.zero_add, List.take_zero, List.nil_append, hlen, padL, bytesV_append]
  congr 1
  simp only [bytesV, List.map_replicate, List.drop_replicate, bl_length]
  congr 1
  omega

theorem plain_is (k : Int) (r : Bool) (h : btw 1 k 4 = r) (w : World) : Calls Tryz.prog 52 #[.int .i64 k] w fun e w' => e = .returned (.bool r) ∧ w = w' := h ▸ plain_calls k w
theorem Casts_is (s s2 : ByteArray) (k l k2 l2 : Int) (r : Bool) (h : castsB k l k2 l2 = r) (w : World) : Calls Tryz.prog 50 #[.agg #[.string s, .int .i64 k, .int .i64 l], .agg #[.string s2, .int .i64 k2, .int .i64 l2]] w fun e w' => e = .returned (.bool r) ∧ Below w.heap.size w w' := h ▸ Casts_calls s s2 k l k2 l2 w

set_option maxHeartbeats 800000 in
theorem Cast_wrong (vk bits : Int) (tx s s2 : ByteArray) (k l k2 l2 : Int) (h0 : 0 ≤ bits) (h1 : bits < 18446744073709551616) (hr : rightB vk bits tx k l = false) (w : World) :
    Calls Tryz.prog 27 #[.agg #[.int .i64 vk, .int .u64 bits, .string tx], .agg #[.string s, .int .i64 k, .int .i64 l], .agg #[.string s2, .int .i64 k2, .int .i64 l2]] w fun e w' => e = .returned (.tuple #[.agg #[.int .i64 0, .int .u64 0, .string (⟨#[]⟩ : ByteArray)], .int .i64 50]) ∧ Below w.heap.size w w' := by
  have HB : Below w.heap.size w (((w.alloc (.cells #[.int .i64 vk, .int .u64 bits, .string tx] 33)).alloc (.cells #[.string s, .int .i64 k, .int .i64 l] 29)).alloc (.cells #[.string s2, .int .i64 k2, .int .i64 l2] 29)) := ((below_new _).alloc (by simp) _).alloc (by simp; omega) _
  have HR := Lib.hid hr
  clear hr
  go_enter Tryz.func27, Tryz.ntmps27
  go_wp2_with (first
    | (go_at_call 49; refine (Right_is _ _ _ _ _ _ h0 h1 _ HR.out _).mono ?_; rintro e w1 ⟨rfl, hb⟩; obtain ⟨hc, hf⟩ := bcell hb; obtain ⟨z0, z1, z2, z3⟩ : w.heap.size < w1.heap.size ∧ w.heap.size + 1 < w1.heap.size ∧ w.heap.size + 1 + 1 < w1.heap.size ∧ w.heap.size + 1 + 1 + 1 < w1.heap.size := (by have hz_ := hb.size; (try simp at hz_); omega); have n_ : Below w.heap.size w _ := below_seq (by repeat (first | exact HB | refine Below.setCell ?_ (by dsimp only; omega) _ | refine Below.alloc ?_ (by have hs_ := HB.size; first | (simp; done) | (simp; omega) | omega) _ | apply Below.drew)) hb; clear HB; have HB := n_; clear n_))
  refine bodyPost_ret (v := .tuple #[.agg #[.int .i64 0, .int .u64 0, .string (⟨#[]⟩ : ByteArray)], .int .i64 50]) (by simp [results, Tryz.results27, go_sem, *]) rfl ⟨rfl, ?_⟩
  (repeat (first | exact HB | refine Below.setCell ?_ (by dsimp only; omega) _ | refine Below.alloc ?_ (by have hs_ := HB.size; first | (simp; done) | (simp; omega) | omega) _ | apply Below.drew))

set_option maxHeartbeats 800000 in
theorem Cast_not (vk bits : Int) (tx s s2 : ByteArray) (k l k2 l2 : Int) (h0 : 0 ≤ bits) (h1 : bits < 18446744073709551616) (hr : rightB vk bits tx k l = true) (hc : castsB k l k2 l2 = false) (w : World) :
    Calls Tryz.prog 27 #[.agg #[.int .i64 vk, .int .u64 bits, .string tx], .agg #[.string s, .int .i64 k, .int .i64 l], .agg #[.string s2, .int .i64 k2, .int .i64 l2]] w fun e w' => e = .returned (.tuple #[.agg #[.int .i64 0, .int .u64 0, .string (⟨#[]⟩ : ByteArray)], .int .i64 51]) ∧ Below w.heap.size w w' := by
  have HB : Below w.heap.size w (((w.alloc (.cells #[.int .i64 vk, .int .u64 bits, .string tx] 33)).alloc (.cells #[.string s, .int .i64 k, .int .i64 l] 29)).alloc (.cells #[.string s2, .int .i64 k2, .int .i64 l2] 29)) := ((below_new _).alloc (by simp) _).alloc (by simp; omega) _
  have HR := Lib.hid hr
  have HC := Lib.hid hc
  clear hr hc
  go_enter Tryz.func27, Tryz.ntmps27
  go_wp2_with (first
    | (go_at_call 49; refine (Right_is _ _ _ _ _ _ h0 h1 _ HR.out _).mono ?_; rintro e w1 ⟨rfl, hb⟩; obtain ⟨hc, hf⟩ := bcell hb; obtain ⟨z0, z1, z2, z3⟩ : w.heap.size < w1.heap.size ∧ w.heap.size + 1 < w1.heap.size ∧ w.heap.size + 1 + 1 < w1.heap.size ∧ w.heap.size + 1 + 1 + 1 < w1.heap.size := (by have hz_ := hb.size; (try simp at hz_); omega); have n_ : Below w.heap.size w _ := below_seq (by repeat (first | exact HB | refine Below.setCell ?_ (by dsimp only; omega) _ | refine Below.alloc ?_ (by have hs_ := HB.size; first | (simp; done) | (simp; omega) | omega) _ | apply Below.drew)) hb; clear HB; have HB := n_; clear n_)
    | (go_at_call 50; refine (Casts_is _ _ _ _ _ _ _ HC.out _).mono ?_; rintro e w2 ⟨rfl, hb⟩; obtain ⟨hc, hf⟩ := bcell hb; obtain ⟨z0, z1, z2, z3⟩ : w.heap.size < w2.heap.size ∧ w.heap.size + 1 < w2.heap.size ∧ w.heap.size + 1 + 1 < w2.heap.size ∧ w.heap.size + 1 + 1 + 1 < w2.heap.size := (by have hz_ := hb.size; (try simp at hz_); omega); have n_ : Below w.heap.size w _ := below_seq (by repeat (first | exact HB | refine Below.setCell ?_ (by dsimp only; omega) _ | refine Below.alloc ?_ (by have hs_ := HB.size; first | (simp; done) | (simp; omega) | omega) _ | apply Below.drew)) hb; clear HB; have HB := n_; clear n_))
  refine bodyPost_ret (v := .tuple #[.agg #[.int .i64 0, .int .u64 0, .string (⟨#[]⟩ : ByteArray)], .int .i64 51]) (by simp [results, Tryz.results27, go_sem, *]) rfl ⟨rfl, ?_⟩
  (repeat (first | exact HB | refine Below.setCell ?_ (by dsimp only; omega) _ | refine Below.alloc ?_ (by have hs_ := HB.size; first | (simp; done) | (simp; omega) | omega) _ | apply Below.drew))

set_option maxHeartbeats 800000 in
theorem Cast_same (vk bits : Int) (tx s s2 : ByteArray) (k l k2 l2 : Int) (h0 : 0 ≤ bits) (h1 : bits < 18446744073709551616) (hr : rightB vk bits tx k l = true) (hc : castsB k l k2 l2 = true) (hk : ¬ k2 = 12) (hf : k2 = 10 → btw 1 k 4 = false ∧ btw 5 k 8 = false) (hi : k2 = 8 → ¬ k = 10) (w : World) :
    Calls Tryz.prog 27 #[.agg #[.int .i64 vk, .int .u64 bits, .string tx], .agg #[.string s, .int .i64 k, .int .i64 l], .agg #[.string s2, .int .i64 k2, .int .i64 l2]] w fun e w' => e = .returned (.tuple #[.agg #[.int .i64 k2, .int .u64 bits, .string (⟨#[]⟩ : ByteArray)], .int .i64 0]) ∧ Below w.heap.size w w' := by
  have HB : Below w.heap.size w (((w.alloc (.cells #[.int .i64 vk, .int .u64 bits, .string tx] 33)).alloc (.cells #[.string s, .int .i64 k, .int .i64 l] 29)).alloc (.cells #[.string s2, .int .i64 k2, .int .i64 l2] 29)) := ((below_new _).alloc (by simp) _).alloc (by simp; omega) _
  have HR := Lib.hid hr
  have HC := Lib.hid hc
  have e12 : (k2 == 12) = false := by simpa using hk
  clear hr hc hk
  by_cases c10 : k2 = 10
  · subst c10
    obtain ⟨p1, p2⟩ := hf rfl
    clear hf hi
    have Q1 := Lib.hid p1
    have Q2 := Lib.hid p2
    clear p1 p2
    go_enter Tryz.func27, Tryz.ntmps27
    go_wp2_with (first
      | (go_at_call 49; refine (Right_is _ _ _ _ _ _ h0 h1 _ HR.out _).mono ?_; rintro e w1 ⟨rfl, hb⟩; obtain ⟨hc, hf⟩ := bcell hb; obtain ⟨z0, z1, z2, z3⟩ : w.heap.size < w1.heap.size ∧ w.heap.size + 1 < w1.heap.size ∧ w.heap.size + 1 + 1 < w1.heap.size ∧ w.heap.size + 1 + 1 + 1 < w1.heap.size := (by have hz_ := hb.size; (try simp at hz_); omega); have n_ : Below w.heap.size w _ := below_seq (by repeat (first | exact HB | refine Below.setCell ?_ (by dsimp only; omega) _ | refine Below.alloc ?_ (by have hs_ := HB.size; first | (simp; done) | (simp; omega) | omega) _ | apply Below.drew)) hb; clear HB; have HB := n_; clear n_)
      | (go_at_call 50; refine (Casts_is _ _ _ _ _ _ _ HC.out _).mono ?_; rintro e w2 ⟨rfl, hb⟩; obtain ⟨hc, hf⟩ := bcell hb; obtain ⟨z0, z1, z2, z3⟩ : w.heap.size < w2.heap.size ∧ w.heap.size + 1 < w2.heap.size ∧ w.heap.size + 1 + 1 < w2.heap.size ∧ w.heap.size + 1 + 1 + 1 < w2.heap.size := (by have hz_ := hb.size; (try simp at hz_); omega); have n_ : Below w.heap.size w _ := below_seq (by repeat (first | exact HB | refine Below.setCell ?_ (by dsimp only; omega) _ | refine Below.alloc ?_ (by have hs_ := HB.size; first | (simp; done) | (simp; omega) | omega) _ | apply Below.drew)) hb; clear HB; have HB := n_; clear n_)
      | (go_at_call 52; refine (plain_is _ _ Q1.out _).mono ?_; rintro e w' ⟨rfl, rfl⟩)
      | (go_at_call 54; refine (signed_is _ _ Q2.out _).mono ?_; rintro e w' ⟨rfl, rfl⟩))
    refine bodyPost_ret (v := .tuple #[.agg #[.int .i64 10, .int .u64 bits, .string (⟨#[]⟩ : ByteArray)], .int .i64 0]) (by simp [results, Tryz.results27, go_sem, *]) rfl ⟨rfl, ?_⟩
    (repeat (first | exact HB | refine Below.setCell ?_ (by dsimp only; omega) _ | refine Below.alloc ?_ (by have hs_ := HB.size; first | (simp; done) | (simp; omega) | omega) _ | apply Below.drew))
  · have e10 : (k2 == 10) = false := by simpa using c10
    clear hf
    by_cases c8 : k2 = 8
    · subst c8
      have ek : (k == 10) = false := by simpa using hi rfl
      clear hi c10
      go_enter Tryz.func27, Tryz.ntmps27
      go_wp2_with (first
        | (go_at_call 49; refine (Right_is _ _ _ _ _ _ h0 h1 _ HR.out _).mono ?_; rintro e w1 ⟨rfl, hb⟩; obtain ⟨hc, hf⟩ := bcell hb; obtain ⟨z0, z1, z2, z3⟩ : w.heap.size < w1.heap.size ∧ w.heap.size + 1 < w1.heap.size ∧ w.heap.size + 1 + 1 < w1.heap.size ∧ w.heap.size + 1 + 1 + 1 < w1.heap.size := (by have hz_ := hb.size; (try simp at hz_); omega); have n_ : Below w.heap.size w _ := below_seq (by repeat (first | exact HB | refine Below.setCell ?_ (by dsimp only; omega) _ | refine Below.alloc ?_ (by have hs_ := HB.size; first | (simp; done) | (simp; omega) | omega) _ | apply Below.drew)) hb; clear HB; have HB := n_; clear n_)
        | (go_at_call 50; refine (Casts_is _ _ _ _ _ _ _ HC.out _).mono ?_; rintro e w2 ⟨rfl, hb⟩; obtain ⟨hc, hf⟩ := bcell hb; obtain ⟨z0, z1, z2, z3⟩ : w.heap.size < w2.heap.size ∧ w.heap.size + 1 < w2.heap.size ∧ w.heap.size + 1 + 1 < w2.heap.size ∧ w.heap.size + 1 + 1 + 1 < w2.heap.size := (by have hz_ := hb.size; (try simp at hz_); omega); have n_ : Below w.heap.size w _ := below_seq (by repeat (first | exact HB | refine Below.setCell ?_ (by dsimp only; omega) _ | refine Below.alloc ?_ (by have hs_ := HB.size; first | (simp; done) | (simp; omega) | omega) _ | apply Below.drew)) hb; clear HB; have HB := n_; clear n_))
      refine bodyPost_ret (v := .tuple #[.agg #[.int .i64 8, .int .u64 bits, .string (⟨#[]⟩ : ByteArray)], .int .i64 0]) (by simp [results, Tryz.results27, go_sem, *]) rfl ⟨rfl, ?_⟩
      (repeat (first | exact HB | refine Below.setCell ?_ (by dsimp only; omega) _ | refine Below.alloc ?_ (by have hs_ := HB.size; first | (simp; done) | (simp; omega) | omega) _ | apply Below.drew))
    · have e8 : (k2 == 8) = false := by simpa using c8
      clear hi c10 c8
      go_enter Tryz.func27, Tryz.ntmps27
      go_wp2_with (first
        | (go_at_call 49; refine (Right_is _ _ _ _ _ _ h0 h1 _ HR.out _).mono ?_; rintro e w1 ⟨rfl, hb⟩; obtain ⟨hc, hf⟩ := bcell hb; obtain ⟨z0, z1, z2, z3⟩ : w.heap.size < w1.heap.size ∧ w.heap.size + 1 < w1.heap.size ∧ w.heap.size + 1 + 1 < w1.heap.size ∧ w.heap.size + 1 + 1 + 1 < w1.heap.size := (by have hz_ := hb.size; (try simp at hz_); omega); have n_ : Below w.heap.size w _ := below_seq (by repeat (first | exact HB | refine Below.setCell ?_ (by dsimp only; omega) _ | refine Below.alloc ?_ (by have hs_ := HB.size; first | (simp; done) | (simp; omega) | omega) _ | apply Below.drew)) hb; clear HB; have HB := n_; clear n_)
        | (go_at_call 50; refine (Casts_is _ _ _ _ _ _ _ HC.out _).mono ?_; rintro e w2 ⟨rfl, hb⟩; obtain ⟨hc, hf⟩ := bcell hb; obtain ⟨z0, z1, z2, z3⟩ : w.heap.size < w2.heap.size ∧ w.heap.size + 1 < w2.heap.size ∧ w.heap.size + 1 + 1 < w2.heap.size ∧ w.heap.size + 1 + 1 + 1 < w2.heap.size := (by have hz_ := hb.size; (try simp at hz_); omega); have n_ : Below w.heap.size w _ := below_seq (by repeat (first | exact HB | refine Below.setCell ?_ (by dsimp only; omega) _ | refine Below.alloc ?_ (by have hs_ := HB.size; first | (simp; done) | (simp; omega) | omega) _ | apply Below.drew)) hb; clear HB; have HB := n_; clear n_))
      refine bodyPost_ret (v := .tuple #[.agg #[.int .i64 k2, .int .u64 bits, .string (⟨#[]⟩ : ByteArray)], .int .i64 0]) (by simp [results, Tryz.results27, go_sem, *]) rfl ⟨rfl, ?_⟩
      (repeat (first | exact HB | refine Below.setCell ?_ (by dsimp only; omega) _ | refine Below.alloc ?_ (by have hs_ := HB.size; first | (simp; done) | (simp; omega) | omega) _ | apply Below.drew))


theorem floatOf_pos (n : Int) (h0 : 0 ≤ n) (h1 : n < 18446744073709551616) : floatOfInt .f64 n = fBits false n.toNat := by
  have e : floatOfInt .f64 n = Ieee.Format.nearest Ieee.double (decide (n < 0)) n.natAbs 0 := rfl
  rw [e, show decide (n < 0) = false by simpa using h0, show n.natAbs = n.toNat by omega]
  refine nearest_bits _ _ ?_
  by_cases hz : n.toNat = 0
  · rw [hz]; decide
  · have : n.toNat.log2 < 64 := by rw [Nat.log2_lt hz]; omega
    omega
theorem floatOf_neg (n : Int) (h0 : n < 0) (h1 : -18446744073709551616 < n) : floatOfInt .f64 n = fBits true (-n).toNat := by
  have e : floatOfInt .f64 n = Ieee.Format.nearest Ieee.double (decide (n < 0)) n.natAbs 0 := rfl
  rw [e, show decide (n < 0) = true by simpa using h0, show n.natAbs = (-n).toNat by omega]
  refine nearest_bits _ _ ?_
  have hz : (-n).toNat ≠ 0 := by omega
  have : (-n).toNat.log2 < 64 := by rw [Nat.log2_lt hz]; omega
  omega
/-- the bits of a number that is cast -/
def castZ (bits k k2 : Int) : Int :=
  if k2 = 10 ∧ btw 1 k 4 = true then (fBits false bits.toNat : Int)
  else if k2 = 10 ∧ btw 5 k 8 = true then (if 9223372036854775808 ≤ bits then (fBits true (18446744073709551616 - bits).toNat : Int) else (fBits false bits.toNat : Int))
  else if k2 = 8 ∧ k = 10 then wholeZ bits.toNat % 18446744073709551616 else bits

set_option maxHeartbeats 800000 in
theorem Cast_plain (vk bits : Int) (tx s s2 : ByteArray) (k l l2 : Int) (h0 : 0 ≤ bits) (h1 : bits < 18446744073709551616) (hr : rightB vk bits tx k l = true) (hc : castsB k l 10 l2 = true) (hp : btw 1 k 4 = true) (w : World) :
    Calls Tryz.prog 27 #[.agg #[.int .i64 vk, .int .u64 bits, .string tx], .agg #[.string s, .int .i64 k, .int .i64 l], .agg #[.string s2, .int .i64 10, .int .i64 l2]] w fun e w' => e = .returned (.tuple #[.agg #[.int .i64 10, .int .u64 (castZ bits k 10), .string (⟨#[]⟩ : ByteArray)], .int .i64 0]) ∧ Below w.heap.size w w' := by
  have HB : Below w.heap.size w (((w.alloc (.cells #[.int .i64 vk, .int .u64 bits, .string tx] 33)).alloc (.cells #[.string s, .int .i64 k, .int .i64 l] 29)).alloc (.cells #[.string s2, .int .i64 10, .int .i64 l2] 29)) := ((below_new _).alloc (by simp) _).alloc (by simp; omega) _
  have HR := Lib.hid hr
  have HC := Lib.hid hc
  clear hr hc
  have e : castZ bits k 10 = (floatOfInt .f64 bits : Int) := by rw [castZ, if_pos ⟨rfl, hp⟩, floatOf_pos bits h0 h1]
  rw [e]
  have Q1 := Lib.hid hp
  clear hp e
  have hcf := bits_run
  go_enter Tryz.func27, Tryz.ntmps27
  go_wp2_with (first
    | (go_at_call 49; refine (Right_is _ _ _ _ _ _ h0 h1 _ HR.out _).mono ?_; rintro e w1 ⟨rfl, hb⟩; obtain ⟨hc, hf⟩ := bcell hb; obtain ⟨z0, z1, z2, z3⟩ : w.heap.size < w1.heap.size ∧ w.heap.size + 1 < w1.heap.size ∧ w.heap.size + 1 + 1 < w1.heap.size ∧ w.heap.size + 1 + 1 + 1 < w1.heap.size := (by have hz_ := hb.size; (try simp at hz_); omega); have n_ : Below w.heap.size w _ := below_seq (by repeat (first | exact HB | refine Below.setCell ?_ (by dsimp only; omega) _ | refine Below.alloc ?_ (by have hs_ := HB.size; first | (simp; done) | (simp; omega) | omega) _ | apply Below.drew)) hb; clear HB; have HB := n_; clear n_)
    | (go_at_call 50; refine (Casts_is _ _ _ _ _ _ _ HC.out _).mono ?_; rintro e w2 ⟨rfl, hb⟩; obtain ⟨hc, hf⟩ := bcell hb; obtain ⟨z0, z1, z2, z3⟩ : w.heap.size < w2.heap.size ∧ w.heap.size + 1 < w2.heap.size ∧ w.heap.size + 1 + 1 < w2.heap.size ∧ w.heap.size + 1 + 1 + 1 < w2.heap.size := (by have hz_ := hb.size; (try simp at hz_); omega); have n_ : Below w.heap.size w _ := below_seq (by repeat (first | exact HB | refine Below.setCell ?_ (by dsimp only; omega) _ | refine Below.alloc ?_ (by have hs_ := HB.size; first | (simp; done) | (simp; omega) | omega) _ | apply Below.drew)) hb; clear HB; have HB := n_; clear n_)
    | (go_at_call 52; refine (plain_is _ _ Q1.out _).mono ?_; rintro e w' ⟨rfl, rfl⟩))
  refine bodyPost_ret (v := .tuple #[.agg #[.int .i64 10, .int .u64 ((floatOfInt .f64 bits : Int)), .string (⟨#[]⟩ : ByteArray)], .int .i64 0]) (by simp [results, Tryz.results27, go_sem, *]) rfl ⟨rfl, ?_⟩
  (repeat (first | exact HB | refine Below.setCell ?_ (by dsimp only; omega) _ | refine Below.alloc ?_ (by have hs_ := HB.size; first | (simp; done) | (simp; omega) | omega) _ | apply Below.drew))

set_option maxHeartbeats 800000 in
theorem Cast_signed (vk bits : Int) (tx s s2 : ByteArray) (k l l2 : Int) (h0 : 0 ≤ bits) (h1 : bits < 18446744073709551616) (hr : rightB vk bits tx k l = true) (hc : castsB k l 10 l2 = true) (hp : btw 5 k 8 = true) (w : World) :
    Calls Tryz.prog 27 #[.agg #[.int .i64 vk, .int .u64 bits, .string tx], .agg #[.string s, .int .i64 k, .int .i64 l], .agg #[.string s2, .int .i64 10, .int .i64 l2]] w fun e w' => e = .returned (.tuple #[.agg #[.int .i64 10, .int .u64 (castZ bits k 10), .string (⟨#[]⟩ : ByteArray)], .int .i64 0]) ∧ Below w.heap.size w w' := by
  have HB : Below w.heap.size w (((w.alloc (.cells #[.int .i64 vk, .int .u64 bits, .string tx] 33)).alloc (.cells #[.string s, .int .i64 k, .int .i64 l] 29)).alloc (.cells #[.string s2, .int .i64 10, .int .i64 l2] 29)) := ((below_new _).alloc (by simp) _).alloc (by simp; omega) _
  have HR := Lib.hid hr
  have HC := Lib.hid hc
  clear hr hc
  have hp1 : btw 1 k 4 = false := by have := btw_iff.1 hp; rw [btw_not]; omega
  have e : castZ bits k 10 = (floatOfInt .f64 (wrap64 bits) : Int) := by
    rw [castZ, if_neg (by rw [hp1]; simp), if_pos ⟨rfl, hp⟩]
    by_cases hb : 9223372036854775808 ≤ bits
    · rw [if_pos hb, show wrap64 bits = bits - 18446744073709551616 by unfold wrap64; omega, floatOf_neg _ (by omega) (by omega), show (-(bits - 18446744073709551616)).toNat = (18446744073709551616 - bits).toNat by omega]
    · rw [if_neg hb, show wrap64 bits = bits by unfold wrap64; omega, floatOf_pos _ h0 h1]
  rw [e]
  have Q1 := Lib.hid hp1
  have Q2 := Lib.hid hp
  clear hp e hp1
  have hcf := bits_run
  go_enter Tryz.func27, Tryz.ntmps27
  go_wp2_with (first
    | (go_at_call 49; refine (Right_is _ _ _ _ _ _ h0 h1 _ HR.out _).mono ?_; rintro e w1 ⟨rfl, hb⟩; obtain ⟨hc, hf⟩ := bcell hb; obtain ⟨z0, z1, z2, z3⟩ : w.heap.size < w1.heap.size ∧ w.heap.size + 1 < w1.heap.size ∧ w.heap.size + 1 + 1 < w1.heap.size ∧ w.heap.size + 1 + 1 + 1 < w1.heap.size := (by have hz_ := hb.size; (try simp at hz_); omega); have n_ : Below w.heap.size w _ := below_seq (by repeat (first | exact HB | refine Below.setCell ?_ (by dsimp only; omega) _ | refine Below.alloc ?_ (by have hs_ := HB.size; first | (simp; done) | (simp; omega) | omega) _ | apply Below.drew)) hb; clear HB; have HB := n_; clear n_)
    | (go_at_call 50; refine (Casts_is _ _ _ _ _ _ _ HC.out _).mono ?_; rintro e w2 ⟨rfl, hb⟩; obtain ⟨hc, hf⟩ := bcell hb; obtain ⟨z0, z1, z2, z3⟩ : w.heap.size < w2.heap.size ∧ w.heap.size + 1 < w2.heap.size ∧ w.heap.size + 1 + 1 < w2.heap.size ∧ w.heap.size + 1 + 1 + 1 < w2.heap.size := (by have hz_ := hb.size; (try simp at hz_); omega); have n_ : Below w.heap.size w _ := below_seq (by repeat (first | exact HB | refine Below.setCell ?_ (by dsimp only; omega) _ | refine Below.alloc ?_ (by have hs_ := HB.size; first | (simp; done) | (simp; omega) | omega) _ | apply Below.drew)) hb; clear HB; have HB := n_; clear n_)
    | (go_at_call 52; refine (plain_is _ _ Q1.out _).mono ?_; rintro e w' ⟨rfl, rfl⟩)
    | (go_at_call 54; refine (signed_is _ _ Q2.out _).mono ?_; rintro e w' ⟨rfl, rfl⟩))
  refine bodyPost_ret (v := .tuple #[.agg #[.int .i64 10, .int .u64 ((floatOfInt .f64 (wrap64 bits) : Int)), .string (⟨#[]⟩ : ByteArray)], .int .i64 0]) (by simp [results, Tryz.results27, go_sem, *]) rfl ⟨rfl, ?_⟩
  (repeat (first | exact HB | refine Below.setCell ?_ (by dsimp only; omega) _ | refine Below.alloc ?_ (by have hs_ := HB.size; first | (simp; done) | (simp; omega) | omega) _ | apply Below.drew))

set_option maxHeartbeats 800000 in
theorem Cast_whole (vk bits : Int) (tx s s2 : ByteArray) (l l2 : Int) (h0 : 0 ≤ bits) (h1 : bits < 18446744073709551616) (hr : rightB vk bits tx 10 l = true) (hc : castsB 10 l 8 l2 = true) (w : World) :
    Calls Tryz.prog 27 #[.agg #[.int .i64 vk, .int .u64 bits, .string tx], .agg #[.string s, .int .i64 10, .int .i64 l], .agg #[.string s2, .int .i64 8, .int .i64 l2]] w fun e w' => e = .returned (.tuple #[.agg #[.int .i64 8, .int .u64 (castZ bits 10 8), .string (⟨#[]⟩ : ByteArray)], .int .i64 0]) ∧ Below w.heap.size w w' := by
  have HB : Below w.heap.size w (((w.alloc (.cells #[.int .i64 vk, .int .u64 bits, .string tx] 33)).alloc (.cells #[.string s, .int .i64 10, .int .i64 l] 29)).alloc (.cells #[.string s2, .int .i64 8, .int .i64 l2] 29)) := ((below_new _).alloc (by simp) _).alloc (by simp; omega) _
  have HR := Lib.hid hr
  have HC := Lib.hid hc
  clear hr hc
  have e : castZ bits 10 8 = wholeZ bits.toNat % 18446744073709551616 := by simp [castZ]
  rw [e]
  clear e
  obtain ⟨z, hz⟩ : ∃ z, wholeZ bits.toNat = z := ⟨_, rfl⟩
  rw [hz]
  have HZ := Lib.hid hz
  clear hz
  have e3 : IntKind.u64.wrap z = z % 18446744073709551616 := IntKind.wrap_u64 z
  go_enter Tryz.func27, Tryz.ntmps27
  go_wp2_with (first
    | (go_at_call 49; refine (Right_is _ _ _ _ _ _ h0 h1 _ HR.out _).mono ?_; rintro e w1 ⟨rfl, hb⟩; obtain ⟨hc, hf⟩ := bcell hb; obtain ⟨z0, z1, z2, z3⟩ : w.heap.size < w1.heap.size ∧ w.heap.size + 1 < w1.heap.size ∧ w.heap.size + 1 + 1 < w1.heap.size ∧ w.heap.size + 1 + 1 + 1 < w1.heap.size := (by have hz_ := hb.size; (try simp at hz_); omega); have n_ : Below w.heap.size w _ := below_seq (by repeat (first | exact HB | refine Below.setCell ?_ (by dsimp only; omega) _ | refine Below.alloc ?_ (by have hs_ := HB.size; first | (simp; done) | (simp; omega) | omega) _ | apply Below.drew)) hb; clear HB; have HB := n_; clear n_)
    | (go_at_call 50; refine (Casts_is _ _ _ _ _ _ _ HC.out _).mono ?_; rintro e w2 ⟨rfl, hb⟩; obtain ⟨hc, hf⟩ := bcell hb; obtain ⟨z0, z1, z2, z3⟩ : w.heap.size < w2.heap.size ∧ w.heap.size + 1 < w2.heap.size ∧ w.heap.size + 1 + 1 < w2.heap.size ∧ w.heap.size + 1 + 1 + 1 < w2.heap.size := (by have hz_ := hb.size; (try simp at hz_); omega); have n_ : Below w.heap.size w _ := below_seq (by repeat (first | exact HB | refine Below.setCell ?_ (by dsimp only; omega) _ | refine Below.alloc ?_ (by have hs_ := HB.size; first | (simp; done) | (simp; omega) | omega) _ | apply Below.drew)) hb; clear HB; have HB := n_; clear n_)
    | (go_at_call 55; refine (Whole_calls bits h0 h1 _).mono ?_; rw [HZ.out]; rintro e w3 ⟨rfl, hb⟩; obtain ⟨hc, hf⟩ := bcell hb; obtain ⟨z0, z1, z2, z3⟩ : w.heap.size < w3.heap.size ∧ w.heap.size + 1 < w3.heap.size ∧ w.heap.size + 1 + 1 < w3.heap.size ∧ w.heap.size + 1 + 1 + 1 < w3.heap.size := (by have hz_ := hb.size; (try simp at hz_); omega); obtain y0 : w2.heap.size < w3.heap.size := (by have hz_ := hb.size; (try simp at hz_); omega); have n_ : Below w.heap.size w _ := below_seq (by repeat (first | exact HB | refine Below.setCell ?_ (by dsimp only; omega) _ | refine Below.alloc ?_ (by have hs_ := HB.size; first | (simp; done) | (simp; omega) | omega) _ | apply Below.drew)) hb; clear HB; have HB := n_; clear n_))
  refine bodyPost_ret (v := .tuple #[.agg #[.int .i64 8, .int .u64 (z % 18446744073709551616), .string (⟨#[]⟩ : ByteArray)], .int .i64 0]) (by simp [results, Tryz.results27, go_sem, *]) rfl ⟨rfl, ?_⟩
  (repeat (first | exact HB | refine Below.setCell ?_ (by dsimp only; omega) _ | refine Below.alloc ?_ (by have hs_ := HB.size; first | (simp; done) | (simp; omega) | omega) _ | apply Below.drew))

end Go.Proofs.YtehcpjodkadfnaaGreat
