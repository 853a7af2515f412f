/- Arguments of laws, opened and shut: values, fields, pairs of numbers, rows of bytes. -/
import Derived.Test.YtepfabijmhhhcaaLb
import Derived.WalkKit
import Derived.ProofKit
import Derived.OpenShut
import Derived.ShutString
import Derived.ChangeOld
import Derived.Below
import Derived.SizedLaws
import Derived.Lib.SmallJoins
import Derived.Laws.IdiomArrays
set_option linter.unusedSimpArgs false
set_option linter.unusedVariables false
namespace Go.Proofs.Ytepfabijmhhhcaa
open Go.ChangeShapes Go.WideShapes Go.ChangeAt Go.RowKit Go.Joins
open Go.ChangeMaps (open_string shut_string)

section
variable {H : Type} {enc : TypeId × Value → H} {w : World} {base b0 : Nat} {r : Reach} {spare : Nat → Bool} {held : Bool} {v : Value} {d : DataW H} {p : List MemPlace}

theorem wf_i64 {n : Int} (h : (Lit.int .i64 n).wf = true) : -9223372036854775808 ≤ n ∧ n ≤ 9223372036854775807 := by
  have := bounds_i64 h
  omega
theorem wf_u64 {n : Int} (h : (Lit.int .u64 n).wf = true) : 0 ≤ n ∧ n < 18446744073709551616 := by
  have := bounds_u64 h
  omega
theorem wf_u8 {n : Int} (h : (Lit.int .u8 n).wf = true) : 0 ≤ n ∧ n < 256 := by
  have := bounds_u8 h
  omega

/-- An api.Value. -/
theorem open_val (hv : Value.okWide Try.prog w r b0 37 v) (h : DataW.Trod enc Try.prog w base spare held 37 v d p) :
    ∃ k x s, v = .agg #[.int .i64 k, .int .u64 x, .string s] ∧ (-9223372036854775808 ≤ k ∧ k ≤ 9223372036854775807) ∧ (0 ≤ x ∧ x < 18446744073709551616) ∧ s.size ≤ maxLen ∧
      ∀ (w' : World) (base' : Nat) (spare' : Nat → Bool) (held' : Bool), DataW.Trod enc Try.prog w' base' spare' held' 37 v d p := by
  obtain ⟨c0, c1, c2, y0, y1, y2, m, rfl, rfl, rfl, h0, h1, h2⟩ := open_agg3 Try.underlying37 (by kernel_rfl) (by kernel_rfl) hv h
  obtain ⟨k, e0, rfl, w0⟩ := DataW.trod_int Try.underlying3 h0
  obtain ⟨x, e1, rfl, w1⟩ := DataW.trod_int Try.underlying35 h1
  obtain ⟨s, e2, rfl, w2⟩ := DataW.trod_string Try.underlying9 h2
  simp at e0 e1 e2
  subst e0 e1 e2
  refine ⟨k, x, s, rfl, wf_i64 w0, wf_u64 w1, w2, fun w' base' spare' held' => ?_⟩
  exact shut_agg3 (y0 := (.lit (.int .i64 k), [])) (y1 := (.lit (.int .u64 x), [])) (y2 := (.lit (.string s.data.toList), [])) Try.underlying37 (by kernel_rfl) (by kernel_rfl)
    ⟨1, by simp [DataW.trod, Try.underlying3, w0]⟩ ⟨1, by simp [DataW.trod, Try.underlying35, w1]⟩ (Go.Deep.shut_string_cell Try.underlying9 w2)
/-- An api.Field. -/
theorem open_fld (hv : Value.okWide Try.prog w r b0 40 v) (h : DataW.Trod enc Try.prog w base spare held 40 v d p) :
    ∃ s k l, v = .agg #[.string s, .int .i64 k, .int .i64 l] ∧ (-9223372036854775808 ≤ k ∧ k ≤ 9223372036854775807) ∧ (-9223372036854775808 ≤ l ∧ l ≤ 9223372036854775807) ∧ s.size ≤ maxLen ∧
      ∀ (w' : World) (base' : Nat) (spare' : Nat → Bool) (held' : Bool), DataW.Trod enc Try.prog w' base' spare' held' 40 v d p := by
  obtain ⟨c0, c1, c2, y0, y1, y2, m, rfl, rfl, rfl, h0, h1, h2⟩ := open_agg3 Try.underlying40 (by kernel_rfl) (by kernel_rfl) hv h
  obtain ⟨s, e0, rfl, w0⟩ := DataW.trod_string Try.underlying9 h0
  obtain ⟨k, e1, rfl, w1⟩ := DataW.trod_int Try.underlying3 h1
  obtain ⟨l, e2, rfl, w2⟩ := DataW.trod_int Try.underlying3 h2
  simp at e0 e1 e2
  subst e0 e1 e2
  refine ⟨s, k, l, rfl, wf_i64 w1, wf_i64 w2, w0, fun w' base' spare' held' => ?_⟩
  exact shut_agg3 (y0 := (.lit (.string s.data.toList), [])) (y1 := (.lit (.int .i64 k), [])) (y2 := (.lit (.int .i64 l), [])) Try.underlying40 (by kernel_rfl) (by kernel_rfl)
    (Go.Deep.shut_string_cell Try.underlying9 w0) ⟨1, by simp [DataW.trod, Try.underlying3, w1]⟩ ⟨1, by simp [DataW.trod, Try.underlying3, w2]⟩
/-- A row of bytes. -/
theorem open_bytes (hv : Value.okWide Try.prog w r b0 30 v) (h : DataW.Trod enc Try.prog w base spare held 30 v d p) :
    ∃ A c l, v = .slice A l.length c ∧ l.length ≤ c ∧ c ≤ maxLen ∧ Rd w A (bytesV l) := by
  obtain ⟨a, len, cap, rfl⟩ := okWide_slice Try.underlying30 hv
  obtain ⟨fuel, hf⟩ := h
  rcases open_ints Try.underlying30 Try.underlying5 (by kernel_rfl) hf with ⟨hcs, _⟩ | ⟨x, l, c, zs, hcs, _, hl, hm, hz, _, hcell, hwz⟩
  · simp [Value.cells] at hcs
    obtain ⟨rfl, rfl, rfl⟩ := hcs
    exact ⟨none, 0, [], rfl, Nat.le_refl _, Nat.zero_le _, Rd.nil _ _⟩
  · simp [Value.cells] at hcs
    obtain ⟨rfl, rfl, rfl⟩ := hcs
    have hzl : len ≤ zs.length := by rw [hz]; split <;> omega
    have hlen : ((zs.take len).map fun z => UInt8.ofNat z.toNat).length = len := by rw [List.length_map, List.length_take]; omega
    refine ⟨some x, cap, (zs.take len).map fun z => UInt8.ofNat z.toNat, by rw [hlen], by rw [hlen]; exact hl, hm, fun _ => ⟨x, rfl, fun j u hj => ?_⟩⟩
    have hjl : j < len := by
      rcases Nat.lt_or_ge j len with h' | h'
      · exact h'
      · rw [List.getElem?_eq_none (by rw [bytesV_length, hlen]; exact h')] at hj; cases hj
    have hjz : j < zs.length := by omega
    have hb := wf_u8 (hwz _ (List.getElem_mem hjz))
    rw [hcell j hjz]
    rw [bytesV_get (by rw [hlen]; exact hjl)] at hj
    rw [← Option.some.inj hj]
    simp [List.getD_eq_getElem?_getD, List.getElem?_eq_getElem hjz]
    omega
end
end Go.Proofs.Ytepfabijmhhhcaa
