/-
  No cell of these rows narrows 'for every input' (looked for: loops, veiled, ifaces, maps, wideKeys, modest, calm, conditions, laid).
  DERIVED. THE GIVEN ROWS OF THIS SEAT. 8 by the template 'for every input the law returns true; each argument reads behind the call as it read before'; 0 by the template 'total and deterministic' (their statements: YtefbogpobejoeaaTotals.lean).
  GIVEN WITH THE SEED: the statements are not yours to turn. If you find one false, say at which input.
  Laid BY PROGRAM, IN A SANDBOX (cutbox-rows.mjs): the forced cells as the released guide's own fill.sh prints them over the translation 8241841b027a72ef… (all of the seat's roots in one cut). By AI agents, Wed Nov 11 2026. No macro, syntax, notation, axiom, sorry.
-/
import Derived.Test.YtefbogpobejoeaaChecked
import GoSem.Claim
import GoSem.ClaimJoined
import GoSem.ClaimMapViews
import Derived.JoinedTies
import Derived.KernelRfl
namespace Go.Proofs.Ytefbogpobejoeaa
/- THE CELL 'sum', in the pinned program and in every row, IS THE sha256 OF THE DUMP (.gsa) THAT YtefbogpobejoeaaProg.lean LOADS. Nothing in Lean hashes anything: it is a label: what it is worth is what the hold of that sum in a sandbox is worth. -/
noncomputable def Try.pinned : Pinned := { name := "ytefbogpobejoeaa", sum := "8241841b027a72ef33fb5d69d0f490175ba2b1ac50419772195cfa69334623c8", checked := Try.checked }
namespace Rows
def none {H : Type} : Left H := { results := [], args := [] }

/-- 'ecdysislaw05.KindCasts': WHATEVER THE INPUT: true; the input reads as it did. -/
def kindCastsSpec : ChangeSpec := { name := "kindCasts", fn := fun _ => fun
  | [d1, d2, d3] => { results := [.lit (.bool true)], args := [d1, d2, d3] }
  | _ => none }
def kindCastsRow : OpenClaim := { program := "ytefbogpobejoeaa", sum := "8241841b027a72ef33fb5d69d0f490175ba2b1ac50419772195cfa69334623c8", func := "ecdysis/ecdysislaw05.KindCasts", spec := "kindCasts", inPlace := ["math.Float64bits", "math.Float64frombits", "math.archTrunc"], unfollowed := true, recurses := true, apart := false }
def KindCastsSaid : Prop := kindCastsRow.holds Try.pinned (OpenSpec.ofChange kindCastsSpec)

/-- ITS FALSE NEIGHBOUR: 'it returns false'. Refute it at one input. -/
def kindCastsWrong : ChangeSpec := { name := "kindCasts", fn := fun _ => fun
  | [d1, d2, d3] => { results := [.lit (.bool false)], args := [d1, d2, d3] }
  | _ => none }
def KindCastsWrongFalsely : Prop := kindCastsRow.holds Try.pinned (OpenSpec.ofChange kindCastsWrong)

/-- 'ecdysislaw05.KindWhole': WHATEVER THE INPUT: true; the input reads as it did. -/
def kindWholeSpec : ChangeSpec := { name := "kindWhole", fn := fun _ => fun
  | [d1, d2] => { results := [.lit (.bool true)], args := [d1, d2] }
  | _ => none }
def kindWholeRow : OpenClaim := { program := "ytefbogpobejoeaa", sum := "8241841b027a72ef33fb5d69d0f490175ba2b1ac50419772195cfa69334623c8", func := "ecdysis/ecdysislaw05.KindWhole", spec := "kindWhole", inPlace := ["math.Float64frombits", "math.archTrunc", "math.Float64bits"], unfollowed := true, recurses := true, apart := false }
def KindWholeSaid : Prop := kindWholeRow.holds Try.pinned (OpenSpec.ofChange kindWholeSpec)

/-- ITS FALSE NEIGHBOUR: 'it returns false'. Refute it at one input. -/
def kindWholeWrong : ChangeSpec := { name := "kindWhole", fn := fun _ => fun
  | [d1, d2] => { results := [.lit (.bool false)], args := [d1, d2] }
  | _ => none }
def KindWholeWrongFalsely : Prop := kindWholeRow.holds Try.pinned (OpenSpec.ofChange kindWholeWrong)

/-- 'ecdysislaw05.KindSteps': WHATEVER THE INPUT: true; the input reads as it did. -/
def kindStepsSpec : ChangeSpec := { name := "kindSteps", fn := fun _ => fun
  | [d1, d2, d3] => { results := [.lit (.bool true)], args := [d1, d2, d3] }
  | _ => none }
def kindStepsRow : OpenClaim := { program := "ytefbogpobejoeaa", sum := "8241841b027a72ef33fb5d69d0f490175ba2b1ac50419772195cfa69334623c8", func := "ecdysis/ecdysislaw05.KindSteps", spec := "kindSteps", inPlace := ["math.Float64bits", "math.Float64frombits", "math.archTrunc"], unfollowed := true, recurses := true, apart := false }
def KindStepsSaid : Prop := kindStepsRow.holds Try.pinned (OpenSpec.ofChange kindStepsSpec)

/-- ITS FALSE NEIGHBOUR: 'it returns false'. Refute it at one input. -/
def kindStepsWrong : ChangeSpec := { name := "kindSteps", fn := fun _ => fun
  | [d1, d2, d3] => { results := [.lit (.bool false)], args := [d1, d2, d3] }
  | _ => none }
def KindStepsWrongFalsely : Prop := kindStepsRow.holds Try.pinned (OpenSpec.ofChange kindStepsWrong)

/-- 'ecdysislaw05.KindCastRight': WHATEVER THE INPUT: true; the input reads as it did. -/
def kindCastRightSpec : ChangeSpec := { name := "kindCastRight", fn := fun _ => fun
  | [d1, d2, d3] => { results := [.lit (.bool true)], args := [d1, d2, d3] }
  | _ => none }
def kindCastRightRow : OpenClaim := { program := "ytefbogpobejoeaa", sum := "8241841b027a72ef33fb5d69d0f490175ba2b1ac50419772195cfa69334623c8", func := "ecdysis/ecdysislaw05.KindCastRight", spec := "kindCastRight", inPlace := ["math.Float64bits", "math.Float64frombits", "math.archTrunc"], unfollowed := true, recurses := true, apart := false }
def KindCastRightSaid : Prop := kindCastRightRow.holds Try.pinned (OpenSpec.ofChange kindCastRightSpec)

/-- ITS FALSE NEIGHBOUR: 'it returns false'. Refute it at one input. -/
def kindCastRightWrong : ChangeSpec := { name := "kindCastRight", fn := fun _ => fun
  | [d1, d2, d3] => { results := [.lit (.bool false)], args := [d1, d2, d3] }
  | _ => none }
def KindCastRightWrongFalsely : Prop := kindCastRightRow.holds Try.pinned (OpenSpec.ofChange kindCastRightWrong)

/-- 'ecdysislaw05.KindFloats': WHATEVER THE INPUT: true; the input reads as it did. -/
def kindFloatsSpec : ChangeSpec := { name := "kindFloats", fn := fun _ => fun
  | [d] => { results := [.lit (.bool true)], args := [d] }
  | _ => none }
def kindFloatsRow : OpenClaim := { program := "ytefbogpobejoeaa", sum := "8241841b027a72ef33fb5d69d0f490175ba2b1ac50419772195cfa69334623c8", func := "ecdysis/ecdysislaw05.KindFloats", spec := "kindFloats", inPlace := ["math.Float64bits", "math.Float64frombits", "math.archTrunc"], unfollowed := true, recurses := true, apart := false }
def KindFloatsSaid : Prop := kindFloatsRow.holds Try.pinned (OpenSpec.ofChange kindFloatsSpec)

/-- ITS FALSE NEIGHBOUR: 'it returns false'. Refute it at one input. -/
def kindFloatsWrong : ChangeSpec := { name := "kindFloats", fn := fun _ => fun
  | [d] => { results := [.lit (.bool false)], args := [d] }
  | _ => none }
def KindFloatsWrongFalsely : Prop := kindFloatsRow.holds Try.pinned (OpenSpec.ofChange kindFloatsWrong)

/-- 'ecdysislaw05.KindZeros': WHATEVER THE INPUT: true; the input reads as it did. -/
def kindZerosSpec : ChangeSpec := { name := "kindZeros", fn := fun _ => fun
  | [d] => { results := [.lit (.bool true)], args := [d] }
  | _ => none }
def kindZerosRow : OpenClaim := { program := "ytefbogpobejoeaa", sum := "8241841b027a72ef33fb5d69d0f490175ba2b1ac50419772195cfa69334623c8", func := "ecdysis/ecdysislaw05.KindZeros", spec := "kindZeros", inPlace := ["math.Float64bits", "math.Float64frombits", "math.archTrunc"], unfollowed := true, recurses := true, apart := false }
def KindZerosSaid : Prop := kindZerosRow.holds Try.pinned (OpenSpec.ofChange kindZerosSpec)

/-- ITS FALSE NEIGHBOUR: 'it returns false'. Refute it at one input. -/
def kindZerosWrong : ChangeSpec := { name := "kindZeros", fn := fun _ => fun
  | [d] => { results := [.lit (.bool false)], args := [d] }
  | _ => none }
def KindZerosWrongFalsely : Prop := kindZerosRow.holds Try.pinned (OpenSpec.ofChange kindZerosWrong)

/-- 'ecdysislaw05.KindBack': WHATEVER THE INPUT: true; the input reads as it did. -/
def kindBackSpec : ChangeSpec := { name := "kindBack", fn := fun _ => fun
  | [d1, d2, d3] => { results := [.lit (.bool true)], args := [d1, d2, d3] }
  | _ => none }
def kindBackRow : OpenClaim := { program := "ytefbogpobejoeaa", sum := "8241841b027a72ef33fb5d69d0f490175ba2b1ac50419772195cfa69334623c8", func := "ecdysis/ecdysislaw05.KindBack", spec := "kindBack", inPlace := ["math.Float64bits", "math.Float64frombits", "math.archTrunc"], unfollowed := true, recurses := true, apart := false }
def KindBackSaid : Prop := kindBackRow.holds Try.pinned (OpenSpec.ofChange kindBackSpec)

/-- ITS FALSE NEIGHBOUR: 'it returns false'. Refute it at one input. -/
def kindBackWrong : ChangeSpec := { name := "kindBack", fn := fun _ => fun
  | [d1, d2, d3] => { results := [.lit (.bool false)], args := [d1, d2, d3] }
  | _ => none }
def KindBackWrongFalsely : Prop := kindBackRow.holds Try.pinned (OpenSpec.ofChange kindBackWrong)

/-- 'ecdysislaw05.KindValues': WHATEVER THE INPUT: true; the input reads as it did. -/
def kindValuesSpec : ChangeSpec := { name := "kindValues", fn := fun _ => fun
  | [d1, d2, d3] => { results := [.lit (.bool true)], args := [d1, d2, d3] }
  | _ => none }
def kindValuesRow : OpenClaim := { program := "ytefbogpobejoeaa", sum := "8241841b027a72ef33fb5d69d0f490175ba2b1ac50419772195cfa69334623c8", func := "ecdysis/ecdysislaw05.KindValues", spec := "kindValues", inPlace := ["math.Float64bits", "math.Float64frombits", "math.archTrunc"], unfollowed := true, recurses := true, apart := false }
def KindValuesSaid : Prop := kindValuesRow.holds Try.pinned (OpenSpec.ofChange kindValuesSpec)

/-- ITS FALSE NEIGHBOUR: 'it returns false'. Refute it at one input. -/
def kindValuesWrong : ChangeSpec := { name := "kindValues", fn := fun _ => fun
  | [d1, d2, d3] => { results := [.lit (.bool false)], args := [d1, d2, d3] }
  | _ => none }
def KindValuesWrongFalsely : Prop := kindValuesRow.holds Try.pinned (OpenSpec.ofChange kindValuesWrong)

/- THE SECOND FORM. 'bulk': how many values and letters a reading holds, each counted each time it is reached (what is shared counts as often as it is met; a slice's spare places count too). A statement '..UptoSaid' is the law's where the arguments, and the package variables that the reading takes, are together of bulk at most 1048576: NARROWER than '..Said'. Prove '..Said' where nothing that the law and all that it calls make is longer than what came in: it says more and counts as full. Else prove '..UptoSaid'. A law counts once. -/
mutual
def uptoBulk {H : Type} : DataW H → Nat
  | .lit (.string bytes) => bytes.length + 1
  | .lit _ => 1
  | .nil => 1
  | .ptr d => uptoBulk d + 1
  | .slice elems spare => uptoBulkAll elems + uptoBulkAll spare + 1
  | .agg parts => uptoBulkAll parts + 1
  | .iface _ d => uptoBulk d + 1
  | .map entries => uptoBulkEntries entries + 1
  | .held _ => 1
def uptoBulkAll {H : Type} : List (DataW H) → Nat
  | [] => 0
  | d :: r => uptoBulk d + uptoBulkAll r
def uptoBulkEntries {H : Type} : List (Lit × DataW H) → Nat
  | [] => 0
  | x :: r => uptoBulkEntry x + uptoBulkEntries r
def uptoBulkEntry {H : Type} : Lit × DataW H → Nat
  | (.string bytes, d) => bytes.length + uptoBulk d + 1
  | (_, d) => uptoBulk d + 1
 end
def uptoSmall : (H : Type) → List (DataW H) → Bool := fun _ ds => decide (uptoBulkAll ds ≤ 1048576)
def OpenSpec.upto (s : _root_.Go.ChangeSpec) : _root_.Go.OpenSpec := { _root_.Go.OpenSpec.ofChange s with cond := some uptoSmall }

/-- 'ecdysislaw05.KindCasts', WHERE WHAT IT READS IS OF BULK AT MOST 1048576: true; the input reads as it did. -/
def kindCastsUptoRow : OpenClaim := { program := "ytefbogpobejoeaa", sum := "8241841b027a72ef33fb5d69d0f490175ba2b1ac50419772195cfa69334623c8", func := "ecdysis/ecdysislaw05.KindCasts", spec := "kindCasts", inPlace := ["math.Float64bits", "math.Float64frombits", "math.archTrunc"], unfollowed := true, recurses := true, apart := false, narrowed := true }
def KindCastsUptoSaid : Prop := kindCastsUptoRow.holds Try.pinned (OpenSpec.upto kindCastsSpec)

/-- 'ecdysislaw05.KindWhole', WHERE WHAT IT READS IS OF BULK AT MOST 1048576: true; the input reads as it did. -/
def kindWholeUptoRow : OpenClaim := { program := "ytefbogpobejoeaa", sum := "8241841b027a72ef33fb5d69d0f490175ba2b1ac50419772195cfa69334623c8", func := "ecdysis/ecdysislaw05.KindWhole", spec := "kindWhole", inPlace := ["math.Float64frombits", "math.archTrunc", "math.Float64bits"], unfollowed := true, recurses := true, apart := false, narrowed := true }
def KindWholeUptoSaid : Prop := kindWholeUptoRow.holds Try.pinned (OpenSpec.upto kindWholeSpec)

/-- 'ecdysislaw05.KindSteps', WHERE WHAT IT READS IS OF BULK AT MOST 1048576: true; the input reads as it did. -/
def kindStepsUptoRow : OpenClaim := { program := "ytefbogpobejoeaa", sum := "8241841b027a72ef33fb5d69d0f490175ba2b1ac50419772195cfa69334623c8", func := "ecdysis/ecdysislaw05.KindSteps", spec := "kindSteps", inPlace := ["math.Float64bits", "math.Float64frombits", "math.archTrunc"], unfollowed := true, recurses := true, apart := false, narrowed := true }
def KindStepsUptoSaid : Prop := kindStepsUptoRow.holds Try.pinned (OpenSpec.upto kindStepsSpec)

/-- 'ecdysislaw05.KindCastRight', WHERE WHAT IT READS IS OF BULK AT MOST 1048576: true; the input reads as it did. -/
def kindCastRightUptoRow : OpenClaim := { program := "ytefbogpobejoeaa", sum := "8241841b027a72ef33fb5d69d0f490175ba2b1ac50419772195cfa69334623c8", func := "ecdysis/ecdysislaw05.KindCastRight", spec := "kindCastRight", inPlace := ["math.Float64bits", "math.Float64frombits", "math.archTrunc"], unfollowed := true, recurses := true, apart := false, narrowed := true }
def KindCastRightUptoSaid : Prop := kindCastRightUptoRow.holds Try.pinned (OpenSpec.upto kindCastRightSpec)

/-- 'ecdysislaw05.KindFloats', WHERE WHAT IT READS IS OF BULK AT MOST 1048576: true; the input reads as it did. -/
def kindFloatsUptoRow : OpenClaim := { program := "ytefbogpobejoeaa", sum := "8241841b027a72ef33fb5d69d0f490175ba2b1ac50419772195cfa69334623c8", func := "ecdysis/ecdysislaw05.KindFloats", spec := "kindFloats", inPlace := ["math.Float64bits", "math.Float64frombits", "math.archTrunc"], unfollowed := true, recurses := true, apart := false, narrowed := true }
def KindFloatsUptoSaid : Prop := kindFloatsUptoRow.holds Try.pinned (OpenSpec.upto kindFloatsSpec)

/-- 'ecdysislaw05.KindZeros', WHERE WHAT IT READS IS OF BULK AT MOST 1048576: true; the input reads as it did. -/
def kindZerosUptoRow : OpenClaim := { program := "ytefbogpobejoeaa", sum := "8241841b027a72ef33fb5d69d0f490175ba2b1ac50419772195cfa69334623c8", func := "ecdysis/ecdysislaw05.KindZeros", spec := "kindZeros", inPlace := ["math.Float64bits", "math.Float64frombits", "math.archTrunc"], unfollowed := true, recurses := true, apart := false, narrowed := true }
def KindZerosUptoSaid : Prop := kindZerosUptoRow.holds Try.pinned (OpenSpec.upto kindZerosSpec)

/-- 'ecdysislaw05.KindBack', WHERE WHAT IT READS IS OF BULK AT MOST 1048576: true; the input reads as it did. -/
def kindBackUptoRow : OpenClaim := { program := "ytefbogpobejoeaa", sum := "8241841b027a72ef33fb5d69d0f490175ba2b1ac50419772195cfa69334623c8", func := "ecdysis/ecdysislaw05.KindBack", spec := "kindBack", inPlace := ["math.Float64bits", "math.Float64frombits", "math.archTrunc"], unfollowed := true, recurses := true, apart := false, narrowed := true }
def KindBackUptoSaid : Prop := kindBackUptoRow.holds Try.pinned (OpenSpec.upto kindBackSpec)

/-- 'ecdysislaw05.KindValues', WHERE WHAT IT READS IS OF BULK AT MOST 1048576: true; the input reads as it did. -/
def kindValuesUptoRow : OpenClaim := { program := "ytefbogpobejoeaa", sum := "8241841b027a72ef33fb5d69d0f490175ba2b1ac50419772195cfa69334623c8", func := "ecdysis/ecdysislaw05.KindValues", spec := "kindValues", inPlace := ["math.Float64bits", "math.Float64frombits", "math.archTrunc"], unfollowed := true, recurses := true, apart := false, narrowed := true }
def KindValuesUptoSaid : Prop := kindValuesUptoRow.holds Try.pinned (OpenSpec.upto kindValuesSpec)

end Rows
end Go.Proofs.Ytefbogpobejoeaa
