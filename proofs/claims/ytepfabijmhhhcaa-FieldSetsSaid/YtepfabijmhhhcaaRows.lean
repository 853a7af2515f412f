/-
  No cell of these rows narrows 'for every input' (looked for: loops, veiled, ifaces, maps, wideKeys, modest, calm, conditions, laid).
  DERIVED. THE GIVEN ROWS OF THIS SEAT. 8 by the template 'for every input the law returns true; each argument reads behind the call as it read before'; 0 by the template 'total and deterministic' (their statements: YtepfabijmhhhcaaTotals.lean).
  GIVEN WITH THE SEED: the statements are not yours to turn. If you find one false, say at which input.
  Laid BY PROGRAM, IN A SANDBOX (cutbox-rows.mjs): the forced cells as the released guide's own fill.sh prints them over the translation 1602db4efff6d42f… (all of the seat's roots in one cut). By AI agents, Wed Nov 11 2026. No macro, syntax, notation, axiom, sorry.
-/
import Derived.Test.YtepfabijmhhhcaaChecked
import GoSem.Claim
import GoSem.ClaimJoined
import GoSem.ClaimMapViews
import Derived.JoinedTies
import Derived.KernelRfl
namespace Go.Proofs.Ytepfabijmhhhcaa
/- THE CELL 'sum', in the pinned program and in every row, IS THE sha256 OF THE DUMP (.gsa) THAT YtepfabijmhhhcaaProg.lean LOADS. Nothing in Lean hashes anything: it is a label: what it is worth is what the hold of that sum in a sandbox is worth. -/
noncomputable def Try.pinned : Pinned := { name := "ytepfabijmhhhcaa", sum := "1602db4efff6d42fa3562bb43df50cbfce1eff7dcf3a26d5ae949928ebfc68d4", checked := Try.checked }
namespace Rows
def none {H : Type} : Left H := { results := [], args := [] }

/-- 'ecdysislaw06.FieldLayouts': WHATEVER THE INPUT: true; the input reads as it did. -/
def fieldLayoutsSpec : ChangeSpec := { name := "fieldLayouts", fn := fun _ => fun
  | [d1, d2] => { results := [.lit (.bool true)], args := [d1, d2] }
  | _ => none }
def fieldLayoutsRow : OpenClaim := { program := "ytepfabijmhhhcaa", sum := "1602db4efff6d42fa3562bb43df50cbfce1eff7dcf3a26d5ae949928ebfc68d4", func := "ecdysis/ecdysislaw06.FieldLayouts", spec := "fieldLayouts", unfollowed := true, recurses := true, apart := false }
def FieldLayoutsSaid : Prop := fieldLayoutsRow.holds Try.pinned (OpenSpec.ofChange fieldLayoutsSpec)

/-- ITS FALSE NEIGHBOUR: 'it returns false'. Refute it at one input. -/
def fieldLayoutsWrong : ChangeSpec := { name := "fieldLayouts", fn := fun _ => fun
  | [d1, d2] => { results := [.lit (.bool false)], args := [d1, d2] }
  | _ => none }
def FieldLayoutsWrongFalsely : Prop := fieldLayoutsRow.holds Try.pinned (OpenSpec.ofChange fieldLayoutsWrong)

/-- 'ecdysislaw06.FieldGets': WHATEVER THE INPUT: true; the input reads as it did. -/
def fieldGetsSpec : ChangeSpec := { name := "fieldGets", fn := fun _ => fun
  | [d1, d2, d3] => { results := [.lit (.bool true)], args := [d1, d2, d3] }
  | _ => none }
def fieldGetsRow : OpenClaim := { program := "ytepfabijmhhhcaa", sum := "1602db4efff6d42fa3562bb43df50cbfce1eff7dcf3a26d5ae949928ebfc68d4", func := "ecdysis/ecdysislaw06.FieldGets", spec := "fieldGets", unfollowed := true, recurses := true, apart := false }
def FieldGetsSaid : Prop := fieldGetsRow.holds Try.pinned (OpenSpec.ofChange fieldGetsSpec)

/-- ITS FALSE NEIGHBOUR: 'it returns false'. Refute it at one input. -/
def fieldGetsWrong : ChangeSpec := { name := "fieldGets", fn := fun _ => fun
  | [d1, d2, d3] => { results := [.lit (.bool false)], args := [d1, d2, d3] }
  | _ => none }
def FieldGetsWrongFalsely : Prop := fieldGetsRow.holds Try.pinned (OpenSpec.ofChange fieldGetsWrong)

/-- 'ecdysislaw06.FieldApart': WHATEVER THE INPUT: true; the input reads as it did. -/
def fieldApartSpec : ChangeSpec := { name := "fieldApart", fn := fun _ => fun
  | [d] => { results := [.lit (.bool true)], args := [d] }
  | _ => none }
def fieldApartRow : OpenClaim := { program := "ytepfabijmhhhcaa", sum := "1602db4efff6d42fa3562bb43df50cbfce1eff7dcf3a26d5ae949928ebfc68d4", func := "ecdysis/ecdysislaw06.FieldApart", spec := "fieldApart", unfollowed := true, recurses := true, apart := false }
def FieldApartSaid : Prop := fieldApartRow.holds Try.pinned (OpenSpec.ofChange fieldApartSpec)

/-- ITS FALSE NEIGHBOUR: 'it returns false'. Refute it at one input. -/
def fieldApartWrong : ChangeSpec := { name := "fieldApart", fn := fun _ => fun
  | [d] => { results := [.lit (.bool false)], args := [d] }
  | _ => none }
def FieldApartWrongFalsely : Prop := fieldApartRow.holds Try.pinned (OpenSpec.ofChange fieldApartWrong)

/-- 'ecdysislaw06.FieldSets': WHATEVER THE INPUT: true; the input reads as it did. -/
def fieldSetsSpec : ChangeSpec := { name := "fieldSets", fn := fun _ => fun
  | [d1, d2] => { results := [.lit (.bool true)], args := [d1, d2] }
  | _ => none }
def fieldSetsRow : OpenClaim := { program := "ytepfabijmhhhcaa", sum := "1602db4efff6d42fa3562bb43df50cbfce1eff7dcf3a26d5ae949928ebfc68d4", func := "ecdysis/ecdysislaw06.FieldSets", spec := "fieldSets", unfollowed := true, recurses := true, apart := false }
def FieldSetsSaid : Prop := fieldSetsRow.holds Try.pinned (OpenSpec.ofChange fieldSetsSpec)

/-- ITS FALSE NEIGHBOUR: 'it returns false'. Refute it at one input. -/
def fieldSetsWrong : ChangeSpec := { name := "fieldSets", fn := fun _ => fun
  | [d1, d2] => { results := [.lit (.bool false)], args := [d1, d2] }
  | _ => none }
def FieldSetsWrongFalsely : Prop := fieldSetsRow.holds Try.pinned (OpenSpec.ofChange fieldSetsWrong)

/-- 'ecdysislaw06.FieldRefs': WHATEVER THE INPUT: true; the input reads as it did. -/
def fieldRefsSpec : ChangeSpec := { name := "fieldRefs", fn := fun _ => fun
  | [d] => { results := [.lit (.bool true)], args := [d] }
  | _ => none }
def fieldRefsRow : OpenClaim := { program := "ytepfabijmhhhcaa", sum := "1602db4efff6d42fa3562bb43df50cbfce1eff7dcf3a26d5ae949928ebfc68d4", func := "ecdysis/ecdysislaw06.FieldRefs", spec := "fieldRefs", unfollowed := true, recurses := true, apart := false }
def FieldRefsSaid : Prop := fieldRefsRow.holds Try.pinned (OpenSpec.ofChange fieldRefsSpec)

/-- ITS FALSE NEIGHBOUR: 'it returns false'. Refute it at one input. -/
def fieldRefsWrong : ChangeSpec := { name := "fieldRefs", fn := fun _ => fun
  | [d] => { results := [.lit (.bool false)], args := [d] }
  | _ => none }
def FieldRefsWrongFalsely : Prop := fieldRefsRow.holds Try.pinned (OpenSpec.ofChange fieldRefsWrong)

/-- 'ecdysislaw06.FieldNames': WHATEVER THE INPUT: true; the input reads as it did. -/
def fieldNamesSpec : ChangeSpec := { name := "fieldNames", fn := fun _ => fun
  | [d1, d2] => { results := [.lit (.bool true)], args := [d1, d2] }
  | _ => none }
def fieldNamesRow : OpenClaim := { program := "ytepfabijmhhhcaa", sum := "1602db4efff6d42fa3562bb43df50cbfce1eff7dcf3a26d5ae949928ebfc68d4", func := "ecdysis/ecdysislaw06.FieldNames", spec := "fieldNames", unfollowed := true, recurses := true, apart := false }
def FieldNamesSaid : Prop := fieldNamesRow.holds Try.pinned (OpenSpec.ofChange fieldNamesSpec)

/-- ITS FALSE NEIGHBOUR: 'it returns false'. Refute it at one input. -/
def fieldNamesWrong : ChangeSpec := { name := "fieldNames", fn := fun _ => fun
  | [d1, d2] => { results := [.lit (.bool false)], args := [d1, d2] }
  | _ => none }
def FieldNamesWrongFalsely : Prop := fieldNamesRow.holds Try.pinned (OpenSpec.ofChange fieldNamesWrong)

/-- 'ecdysislaw06.FieldNew': WHATEVER THE INPUT: true; the input reads as it did. -/
def fieldNewSpec : ChangeSpec := { name := "fieldNew", fn := fun _ => fun
  | [d] => { results := [.lit (.bool true)], args := [d] }
  | _ => none }
def fieldNewRow : OpenClaim := { program := "ytepfabijmhhhcaa", sum := "1602db4efff6d42fa3562bb43df50cbfce1eff7dcf3a26d5ae949928ebfc68d4", func := "ecdysis/ecdysislaw06.FieldNew", spec := "fieldNew", unfollowed := true, recurses := true, apart := false }
def FieldNewSaid : Prop := fieldNewRow.holds Try.pinned (OpenSpec.ofChange fieldNewSpec)

/-- ITS FALSE NEIGHBOUR: 'it returns false'. Refute it at one input. -/
def fieldNewWrong : ChangeSpec := { name := "fieldNew", fn := fun _ => fun
  | [d] => { results := [.lit (.bool false)], args := [d] }
  | _ => none }
def FieldNewWrongFalsely : Prop := fieldNewRow.holds Try.pinned (OpenSpec.ofChange fieldNewWrong)

/-- 'ecdysislaw06.FieldBytes': WHATEVER THE INPUT: true; the input reads as it did. -/
def fieldBytesSpec : ChangeSpec := { name := "fieldBytes", fn := fun _ => fun
  | [d1, d2] => { results := [.lit (.bool true)], args := [d1, d2] }
  | _ => none }
def fieldBytesRow : OpenClaim := { program := "ytepfabijmhhhcaa", sum := "1602db4efff6d42fa3562bb43df50cbfce1eff7dcf3a26d5ae949928ebfc68d4", func := "ecdysis/ecdysislaw06.FieldBytes", spec := "fieldBytes", unfollowed := true, recurses := true, apart := false }
def FieldBytesSaid : Prop := fieldBytesRow.holds Try.pinned (OpenSpec.ofChange fieldBytesSpec)

/-- ITS FALSE NEIGHBOUR: 'it returns false'. Refute it at one input. -/
def fieldBytesWrong : ChangeSpec := { name := "fieldBytes", fn := fun _ => fun
  | [d1, d2] => { results := [.lit (.bool false)], args := [d1, d2] }
  | _ => none }
def FieldBytesWrongFalsely : Prop := fieldBytesRow.holds Try.pinned (OpenSpec.ofChange fieldBytesWrong)

/- THE SECOND FORM. 'bulk': how many values and letters a reading holds, each counted each time it is reached (what is shared counts as often as it is met; a slice's spare places count too). A statement '..UptoSaid' is the law's where the arguments, and the package variables that the reading takes, are together of bulk at most 1048576: NARROWER than '..Said'. Prove '..Said' where nothing that the law and all that it calls make is longer than what came in: it says more and counts as full. Else prove '..UptoSaid'. A law counts once. -/
mutual
def uptoBulk {H : Type} : DataW H → Nat
  | .lit (.string bytes) => bytes.length + 1
  | .lit _ => 1
  | .nil => 1
  | .ptr d => uptoBulk d + 1
  | .slice elems spare => uptoBulkAll elems + uptoBulkAll spare + 1
  | .agg parts => uptoBulkAll parts + 1
  | .iface _ d => uptoBulk d + 1
  | .map entries => uptoBulkEntries entries + 1
  | .held _ => 1
def uptoBulkAll {H : Type} : List (DataW H) → Nat
  | [] => 0
  | d :: r => uptoBulk d + uptoBulkAll r
def uptoBulkEntries {H : Type} : List (Lit × DataW H) → Nat
  | [] => 0
  | x :: r => uptoBulkEntry x + uptoBulkEntries r
def uptoBulkEntry {H : Type} : Lit × DataW H → Nat
  | (.string bytes, d) => bytes.length + uptoBulk d + 1
  | (_, d) => uptoBulk d + 1
 end
def uptoSmall : (H : Type) → List (DataW H) → Bool := fun _ ds => decide (uptoBulkAll ds ≤ 1048576)
def OpenSpec.upto (s : _root_.Go.ChangeSpec) : _root_.Go.OpenSpec := { _root_.Go.OpenSpec.ofChange s with cond := some uptoSmall }

/-- 'ecdysislaw06.FieldLayouts', WHERE WHAT IT READS IS OF BULK AT MOST 1048576: true; the input reads as it did. -/
def fieldLayoutsUptoRow : OpenClaim := { program := "ytepfabijmhhhcaa", sum := "1602db4efff6d42fa3562bb43df50cbfce1eff7dcf3a26d5ae949928ebfc68d4", func := "ecdysis/ecdysislaw06.FieldLayouts", spec := "fieldLayouts", unfollowed := true, recurses := true, apart := false, narrowed := true }
def FieldLayoutsUptoSaid : Prop := fieldLayoutsUptoRow.holds Try.pinned (OpenSpec.upto fieldLayoutsSpec)

/-- 'ecdysislaw06.FieldGets', WHERE WHAT IT READS IS OF BULK AT MOST 1048576: true; the input reads as it did. -/
def fieldGetsUptoRow : OpenClaim := { program := "ytepfabijmhhhcaa", sum := "1602db4efff6d42fa3562bb43df50cbfce1eff7dcf3a26d5ae949928ebfc68d4", func := "ecdysis/ecdysislaw06.FieldGets", spec := "fieldGets", unfollowed := true, recurses := true, apart := false, narrowed := true }
def FieldGetsUptoSaid : Prop := fieldGetsUptoRow.holds Try.pinned (OpenSpec.upto fieldGetsSpec)

/-- 'ecdysislaw06.FieldApart', WHERE WHAT IT READS IS OF BULK AT MOST 1048576: true; the input reads as it did. -/
def fieldApartUptoRow : OpenClaim := { program := "ytepfabijmhhhcaa", sum := "1602db4efff6d42fa3562bb43df50cbfce1eff7dcf3a26d5ae949928ebfc68d4", func := "ecdysis/ecdysislaw06.FieldApart", spec := "fieldApart", unfollowed := true, recurses := true, apart := false, narrowed := true }
def FieldApartUptoSaid : Prop := fieldApartUptoRow.holds Try.pinned (OpenSpec.upto fieldApartSpec)

/-- 'ecdysislaw06.FieldSets', WHERE WHAT IT READS IS OF BULK AT MOST 1048576: true; the input reads as it did. -/
def fieldSetsUptoRow : OpenClaim := { program := "ytepfabijmhhhcaa", sum := "1602db4efff6d42fa3562bb43df50cbfce1eff7dcf3a26d5ae949928ebfc68d4", func := "ecdysis/ecdysislaw06.FieldSets", spec := "fieldSets", unfollowed := true, recurses := true, apart := false, narrowed := true }
def FieldSetsUptoSaid : Prop := fieldSetsUptoRow.holds Try.pinned (OpenSpec.upto fieldSetsSpec)

/-- 'ecdysislaw06.FieldRefs', WHERE WHAT IT READS IS OF BULK AT MOST 1048576: true; the input reads as it did. -/
def fieldRefsUptoRow : OpenClaim := { program := "ytepfabijmhhhcaa", sum := "1602db4efff6d42fa3562bb43df50cbfce1eff7dcf3a26d5ae949928ebfc68d4", func := "ecdysis/ecdysislaw06.FieldRefs", spec := "fieldRefs", unfollowed := true, recurses := true, apart := false, narrowed := true }
def FieldRefsUptoSaid : Prop := fieldRefsUptoRow.holds Try.pinned (OpenSpec.upto fieldRefsSpec)

/-- 'ecdysislaw06.FieldNames', WHERE WHAT IT READS IS OF BULK AT MOST 1048576: true; the input reads as it did. -/
def fieldNamesUptoRow : OpenClaim := { program := "ytepfabijmhhhcaa", sum := "1602db4efff6d42fa3562bb43df50cbfce1eff7dcf3a26d5ae949928ebfc68d4", func := "ecdysis/ecdysislaw06.FieldNames", spec := "fieldNames", unfollowed := true, recurses := true, apart := false, narrowed := true }
def FieldNamesUptoSaid : Prop := fieldNamesUptoRow.holds Try.pinned (OpenSpec.upto fieldNamesSpec)

/-- 'ecdysislaw06.FieldNew', WHERE WHAT IT READS IS OF BULK AT MOST 1048576: true; the input reads as it did. -/
def fieldNewUptoRow : OpenClaim := { program := "ytepfabijmhhhcaa", sum := "1602db4efff6d42fa3562bb43df50cbfce1eff7dcf3a26d5ae949928ebfc68d4", func := "ecdysis/ecdysislaw06.FieldNew", spec := "fieldNew", unfollowed := true, recurses := true, apart := false, narrowed := true }
def FieldNewUptoSaid : Prop := fieldNewUptoRow.holds Try.pinned (OpenSpec.upto fieldNewSpec)

/-- 'ecdysislaw06.FieldBytes', WHERE WHAT IT READS IS OF BULK AT MOST 1048576: true; the input reads as it did. -/
def fieldBytesUptoRow : OpenClaim := { program := "ytepfabijmhhhcaa", sum := "1602db4efff6d42fa3562bb43df50cbfce1eff7dcf3a26d5ae949928ebfc68d4", func := "ecdysis/ecdysislaw06.FieldBytes", spec := "fieldBytes", unfollowed := true, recurses := true, apart := false, narrowed := true }
def FieldBytesUptoSaid : Prop := fieldBytesUptoRow.holds Try.pinned (OpenSpec.upto fieldBytesSpec)

end Rows
end Go.Proofs.Ytepfabijmhhhcaa
