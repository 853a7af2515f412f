/- Right fields, in plain words, for the laws. -/
import Derived.Test.YtepfabijmhhhcaaGw
set_option linter.unusedSimpArgs false
set_option linter.unusedVariables false
namespace Go.Proofs.Ytepfabijmhhhcaa
open Go.RowKit

theorem rightF_ok {fs : List Fd} (hr : rightF fs = true) {k : Nat} {f : Fd} (hf : fs[k]? = some f) : nameB f.s = true ∧ mayB f.k f.l = true ∧ findZ fs f.s = k := by
  simp only [rightF, Bool.and_eq_true, decide_eq_true_eq] at hr
  obtain ⟨h1, h2⟩ := List.getElem?_eq_some_iff.1 hf
  have := hr.1 k h1
  rw [h2] at this
  simp only [okF, Bool.and_eq_true, decide_eq_true_eq] at this
  exact ⟨this.1.1, this.1.2, this.2⟩
theorem findZ_snoc (a : List Fd) (f : Fd) (nm : ByteArray) : decide (0 ≤ findZ (a ++ [f]) nm) = (decide (0 ≤ findZ a nm) || decide (f.s = nm)) := by
  induction a with
  | nil =>
    by_cases h : f.s = nm <;> simp [findZ, h]
  | cons g r ih =>
    rw [List.cons_append, findZ, findZ]
    by_cases h : g.s = nm
    · simp [h]
    · simp only [if_neg h]
      have hb := findZ_ge (r ++ [f]) nm
      have hb2 := findZ_ge r nm
      have e1 : decide (0 ≤ (if findZ (r ++ [f]) nm < 0 then (-1 : Int) else findZ (r ++ [f]) nm + 1)) = decide (0 ≤ findZ (r ++ [f]) nm) := by
        split <;> (rw [Bool.eq_iff_iff]; simp; omega)
      have e2 : decide (0 ≤ (if findZ r nm < 0 then (-1 : Int) else findZ r nm + 1)) = decide (0 ≤ findZ r nm) := by
        split <;> (rw [Bool.eq_iff_iff]; simp; omega)
      rw [e1, e2, ih]
end Go.Proofs.Ytepfabijmhhhcaa
