/- Arguments of laws, opened and shut: two numbers in an array. -/
import Derived.Test.YtefbogpobejoeaaRw
import Derived.WalkKit
import Derived.ProofKit
import Derived.OpenShut
import Derived.ShutString
import Derived.ChangeOld
import Derived.Below
import Derived.SizedLaws
import Derived.Lib.SmallJoins
import Derived.Laws.IdiomArrays
set_option linter.unusedSimpArgs false
set_option linter.unusedVariables false
namespace Go.Proofs.Ytefbogpobejoeaa
open Go.ChangeShapes Go.WideShapes Go.ChangeAt Go.RowKit Go.Joins
open Go.ChangeMaps (open_string shut_string)

section
variable {H : Type} {enc : TypeId × Value → H} {w : World} {base b0 : Nat} {r : Reach} {spare : Nat → Bool} {held : Bool} {v : Value} {d : DataW H} {p : List MemPlace}

/-- Two numbers, an array by value. -/
theorem open_arr2 (hv : Value.okWide Try.prog w r b0 38 v) (h : DataW.Trod enc Try.prog w base spare held 38 v d p) :
    ∃ x y, v = .agg #[.int .i64 x, .int .i64 y] ∧ (-9223372036854775808 ≤ x ∧ x ≤ 9223372036854775807) ∧ (-9223372036854775808 ≤ y ∧ y ≤ 9223372036854775807) ∧
      ∀ (w' : World) (base' : Nat) (spare' : Nat → Bool) (held' : Bool), DataW.Trod enc Try.prog w' base' spare' held' 38 v d p := by
  have cI : Try.prog.cellsOf 3 = 1 := by kernel_rfl
  have c2 : Try.prog.cellsOf 38 = 2 := by kernel_rfl
  obtain ⟨cs, rfl, hsz, _⟩ : ∃ cs, v = .agg cs ∧ cs.size = Try.prog.cellsOf 38 ∧ Row.okWide Try.prog w r b0 38 cs := by
    simpa [Value.okWide, Try.underlying38] using hv
  obtain ⟨a0, a1, rfl⟩ := array2 (hsz.trans c2)
  obtain ⟨fuel, hf⟩ := h
  obtain ⟨xs, m, _, hx, _, hl, hel⟩ := DataW.trod_array Try.underlying38 hf
  obtain ⟨y0, y1, rfl⟩ : ∃ y0 y1, xs = [y0, y1] := by
    match xs, hl with
    | [y0, y1], _ => exact ⟨y0, y1, rfl⟩
  have h0 := hel 0 (by decide)
  have h1 := hel 1 (by decide)
  rw [cI] at h0 h1
  obtain ⟨x, e0, rfl, w0⟩ := DataW.trod_int Try.underlying3 h0
  obtain ⟨y, e1, rfl, w1⟩ := DataW.trod_int Try.underlying3 h1
  simp [Value.cells] at e0 e1 hx
  subst e0 e1
  obtain ⟨rfl, rfl⟩ := hx
  refine ⟨x, y, rfl, wf_i64 w0, wf_i64 w1, fun w' base' spare' held' => ⟨2, ?_⟩⟩
  have r2 : List.range 2 = [0, 1] := rfl
  simp [DataW.trod, Value.cells, Try.underlying38, Try.underlying3, c2, cI, r2, w0, w1]
end
end Go.Proofs.Ytefbogpobejoeaa
