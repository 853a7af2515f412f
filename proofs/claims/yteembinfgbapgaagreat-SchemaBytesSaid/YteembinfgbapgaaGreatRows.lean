/-
  No cell of these rows narrows 'for every input' (looked for: loops, veiled, ifaces, maps, wideKeys, modest, calm, conditions, laid).
  DERIVED. THE GIVEN ROWS OF THIS SEAT. 7 by the template 'for every input the law returns true; each argument reads behind the call as it read before'; 0 by the template 'total and deterministic' (their statements: YteembinfgbapgaaGreatTotals.lean).
  GIVEN WITH THE SEED: the statements are not yours to turn. If you find one false, say at which input.
  Laid BY PROGRAM, IN A SANDBOX (cutbox-rows.mjs): the forced cells as the released guide's own fill.sh prints them over the translation 7119a4a9e54ef802… (all of the seat's roots in one cut). By AI agents, Wed Nov 11 2026. No macro, syntax, notation, axiom, sorry.
-/
import Derived.Test.YteembinfgbapgaaGreatChecked
import GoSem.Claim
import GoSem.ClaimJoined
import GoSem.ClaimMapViews
import Derived.JoinedTies
import Derived.KernelRfl
namespace Go.Proofs.YteembinfgbapgaaGreat
/- THE CELL 'sum', in the pinned program and in every row, IS THE sha256 OF THE DUMP (.gsa) THAT YteembinfgbapgaaGreatProg.lean LOADS. Nothing in Lean hashes anything: it is a label: what it is worth is what the hold of that sum in a sandbox is worth. -/
noncomputable def Tryz.pinned : Pinned := { name := "yteembinfgbapgaagreat", sum := "7119a4a9e54ef8026ced936c92b625454fae387bf1952629c48e7ef64a8d42e1", checked := Tryz.checked }
namespace Rows
def none {H : Type} : Left H := { results := [], args := [] }

/-- 'ecdysislaw09.SchemaMany': WHATEVER THE INPUT: true; the input reads as it did. -/
def schemaManySpec : ChangeSpec := { name := "schemaMany", fn := fun _ => fun
  | [d] => { results := [.lit (.bool true)], args := [d] }
  | _ => none }
def schemaManyRow : OpenClaim := { program := "yteembinfgbapgaagreat", sum := "7119a4a9e54ef8026ced936c92b625454fae387bf1952629c48e7ef64a8d42e1", func := "ecdysis/ecdysislaw09.SchemaMany", spec := "schemaMany", inPlace := ["math.Float64bits", "math.Float64frombits", "math.archTrunc"], unfollowed := true, recurses := true, apart := false }
def SchemaManySaid : Prop := schemaManyRow.holds Tryz.pinned (OpenSpec.ofChange schemaManySpec)

/-- ITS FALSE NEIGHBOUR: 'it returns false'. Refute it at one input. -/
def schemaManyWrong : ChangeSpec := { name := "schemaMany", fn := fun _ => fun
  | [d] => { results := [.lit (.bool false)], args := [d] }
  | _ => none }
def SchemaManyWrongFalsely : Prop := schemaManyRow.holds Tryz.pinned (OpenSpec.ofChange schemaManyWrong)

/-- 'ecdysislaw09.SchemaAll': WHATEVER THE INPUT: true; the input reads as it did. -/
def schemaAllSpec : ChangeSpec := { name := "schemaAll", fn := fun _ => fun
  | [d] => { results := [.lit (.bool true)], args := [d] }
  | _ => none }
def schemaAllRow : OpenClaim := { program := "yteembinfgbapgaagreat", sum := "7119a4a9e54ef8026ced936c92b625454fae387bf1952629c48e7ef64a8d42e1", func := "ecdysis/ecdysislaw09.SchemaAll", spec := "schemaAll", inPlace := ["math.Float64bits", "math.Float64frombits", "math.archTrunc"], unfollowed := true, recurses := true, apart := false }
def SchemaAllSaid : Prop := schemaAllRow.holds Tryz.pinned (OpenSpec.ofChange schemaAllSpec)

/-- ITS FALSE NEIGHBOUR: 'it returns false'. Refute it at one input. -/
def schemaAllWrong : ChangeSpec := { name := "schemaAll", fn := fun _ => fun
  | [d] => { results := [.lit (.bool false)], args := [d] }
  | _ => none }
def SchemaAllWrongFalsely : Prop := schemaAllRow.holds Tryz.pinned (OpenSpec.ofChange schemaAllWrong)

/-- 'ecdysislaw09.SchemaUpgrades': WHATEVER THE INPUT: true; the input reads as it did. -/
def schemaUpgradesSpec : ChangeSpec := { name := "schemaUpgrades", fn := fun _ => fun
  | [d1, d2, d3] => { results := [.lit (.bool true)], args := [d1, d2, d3] }
  | _ => none }
def schemaUpgradesRow : OpenClaim := { program := "yteembinfgbapgaagreat", sum := "7119a4a9e54ef8026ced936c92b625454fae387bf1952629c48e7ef64a8d42e1", func := "ecdysis/ecdysislaw09.SchemaUpgrades", spec := "schemaUpgrades", inPlace := ["math.Float64bits", "math.Float64frombits", "math.archTrunc"], unfollowed := true, recurses := true, apart := false }
def SchemaUpgradesSaid : Prop := schemaUpgradesRow.holds Tryz.pinned (OpenSpec.ofChange schemaUpgradesSpec)

/-- ITS FALSE NEIGHBOUR: 'it returns false'. Refute it at one input. -/
def schemaUpgradesWrong : ChangeSpec := { name := "schemaUpgrades", fn := fun _ => fun
  | [d1, d2, d3] => { results := [.lit (.bool false)], args := [d1, d2, d3] }
  | _ => none }
def SchemaUpgradesWrongFalsely : Prop := schemaUpgradesRow.holds Tryz.pinned (OpenSpec.ofChange schemaUpgradesWrong)

/-- 'ecdysislaw09.SchemaRetires': WHATEVER THE INPUT: true; the input reads as it did. -/
def schemaRetiresSpec : ChangeSpec := { name := "schemaRetires", fn := fun _ => fun
  | [d1, d2, d3] => { results := [.lit (.bool true)], args := [d1, d2, d3] }
  | _ => none }
def schemaRetiresRow : OpenClaim := { program := "yteembinfgbapgaagreat", sum := "7119a4a9e54ef8026ced936c92b625454fae387bf1952629c48e7ef64a8d42e1", func := "ecdysis/ecdysislaw09.SchemaRetires", spec := "schemaRetires", inPlace := ["math.Float64bits", "math.Float64frombits", "math.archTrunc"], unfollowed := true, recurses := true, apart := false }
def SchemaRetiresSaid : Prop := schemaRetiresRow.holds Tryz.pinned (OpenSpec.ofChange schemaRetiresSpec)

/-- ITS FALSE NEIGHBOUR: 'it returns false'. Refute it at one input. -/
def schemaRetiresWrong : ChangeSpec := { name := "schemaRetires", fn := fun _ => fun
  | [d1, d2, d3] => { results := [.lit (.bool false)], args := [d1, d2, d3] }
  | _ => none }
def SchemaRetiresWrongFalsely : Prop := schemaRetiresRow.holds Tryz.pinned (OpenSpec.ofChange schemaRetiresWrong)

/-- 'ecdysislaw09.SchemaErrors': WHATEVER THE INPUT: true; the input reads as it did. -/
def schemaErrorsSpec : ChangeSpec := { name := "schemaErrors", fn := fun _ => fun
  | [d1, d2] => { results := [.lit (.bool true)], args := [d1, d2] }
  | _ => none }
def schemaErrorsRow : OpenClaim := { program := "yteembinfgbapgaagreat", sum := "7119a4a9e54ef8026ced936c92b625454fae387bf1952629c48e7ef64a8d42e1", func := "ecdysis/ecdysislaw09.SchemaErrors", spec := "schemaErrors", inPlace := ["math.Float64bits", "math.Float64frombits", "math.archTrunc"], unfollowed := true, recurses := true, apart := false }
def SchemaErrorsSaid : Prop := schemaErrorsRow.holds Tryz.pinned (OpenSpec.ofChange schemaErrorsSpec)

/-- ITS FALSE NEIGHBOUR: 'it returns false'. Refute it at one input. -/
def schemaErrorsWrong : ChangeSpec := { name := "schemaErrors", fn := fun _ => fun
  | [d1, d2] => { results := [.lit (.bool false)], args := [d1, d2] }
  | _ => none }
def SchemaErrorsWrongFalsely : Prop := schemaErrorsRow.holds Tryz.pinned (OpenSpec.ofChange schemaErrorsWrong)

/-- 'ecdysislaw09.SchemaStays': WHATEVER THE INPUT: true; the input reads as it did. -/
def schemaStaysSpec : ChangeSpec := { name := "schemaStays", fn := fun _ => fun
  | [d1, d2] => { results := [.lit (.bool true)], args := [d1, d2] }
  | _ => none }
def schemaStaysRow : OpenClaim := { program := "yteembinfgbapgaagreat", sum := "7119a4a9e54ef8026ced936c92b625454fae387bf1952629c48e7ef64a8d42e1", func := "ecdysis/ecdysislaw09.SchemaStays", spec := "schemaStays", inPlace := ["math.Float64bits", "math.Float64frombits", "math.archTrunc"], unfollowed := true, recurses := true, apart := false }
def SchemaStaysSaid : Prop := schemaStaysRow.holds Tryz.pinned (OpenSpec.ofChange schemaStaysSpec)

/-- ITS FALSE NEIGHBOUR: 'it returns false'. Refute it at one input. -/
def schemaStaysWrong : ChangeSpec := { name := "schemaStays", fn := fun _ => fun
  | [d1, d2] => { results := [.lit (.bool false)], args := [d1, d2] }
  | _ => none }
def SchemaStaysWrongFalsely : Prop := schemaStaysRow.holds Tryz.pinned (OpenSpec.ofChange schemaStaysWrong)

/-- 'ecdysislaw09.SchemaBytes': WHATEVER THE INPUT: true; the input reads as it did. -/
def schemaBytesSpec : ChangeSpec := { name := "schemaBytes", fn := fun _ => fun
  | [d1, d2] => { results := [.lit (.bool true)], args := [d1, d2] }
  | _ => none }
def schemaBytesRow : OpenClaim := { program := "yteembinfgbapgaagreat", sum := "7119a4a9e54ef8026ced936c92b625454fae387bf1952629c48e7ef64a8d42e1", func := "ecdysis/ecdysislaw09.SchemaBytes", spec := "schemaBytes", inPlace := ["math.Float64bits", "math.Float64frombits", "math.archTrunc"], unfollowed := true, recurses := true, apart := false }
def SchemaBytesSaid : Prop := schemaBytesRow.holds Tryz.pinned (OpenSpec.ofChange schemaBytesSpec)

/-- ITS FALSE NEIGHBOUR: 'it returns false'. Refute it at one input. -/
def schemaBytesWrong : ChangeSpec := { name := "schemaBytes", fn := fun _ => fun
  | [d1, d2] => { results := [.lit (.bool false)], args := [d1, d2] }
  | _ => none }
def SchemaBytesWrongFalsely : Prop := schemaBytesRow.holds Tryz.pinned (OpenSpec.ofChange schemaBytesWrong)

/- THE SECOND FORM. 'bulk': how many values and letters a reading holds, each counted each time it is reached (what is shared counts as often as it is met; a slice's spare places count too). A statement '..UptoSaid' is the law's where the arguments, and the package variables that the reading takes, are together of bulk at most 1048576: NARROWER than '..Said'. Prove '..Said' where nothing that the law and all that it calls make is longer than what came in: it says more and counts as full. Else prove '..UptoSaid'. A law counts once. -/
mutual
def uptoBulk {H : Type} : DataW H → Nat
  | .lit (.string bytes) => bytes.length + 1
  | .lit _ => 1
  | .nil => 1
  | .ptr d => uptoBulk d + 1
  | .slice elems spare => uptoBulkAll elems + uptoBulkAll spare + 1
  | .agg parts => uptoBulkAll parts + 1
  | .iface _ d => uptoBulk d + 1
  | .map entries => uptoBulkEntries entries + 1
  | .held _ => 1
def uptoBulkAll {H : Type} : List (DataW H) → Nat
  | [] => 0
  | d :: r => uptoBulk d + uptoBulkAll r
def uptoBulkEntries {H : Type} : List (Lit × DataW H) → Nat
  | [] => 0
  | x :: r => uptoBulkEntry x + uptoBulkEntries r
def uptoBulkEntry {H : Type} : Lit × DataW H → Nat
  | (.string bytes, d) => bytes.length + uptoBulk d + 1
  | (_, d) => uptoBulk d + 1
 end
def uptoSmall : (H : Type) → List (DataW H) → Bool := fun _ ds => decide (uptoBulkAll ds ≤ 1048576)
def OpenSpec.upto (s : _root_.Go.ChangeSpec) : _root_.Go.OpenSpec := { _root_.Go.OpenSpec.ofChange s with cond := some uptoSmall }

/-- 'ecdysislaw09.SchemaMany', WHERE WHAT IT READS IS OF BULK AT MOST 1048576: true; the input reads as it did. -/
def schemaManyUptoRow : OpenClaim := { program := "yteembinfgbapgaagreat", sum := "7119a4a9e54ef8026ced936c92b625454fae387bf1952629c48e7ef64a8d42e1", func := "ecdysis/ecdysislaw09.SchemaMany", spec := "schemaMany", inPlace := ["math.Float64bits", "math.Float64frombits", "math.archTrunc"], unfollowed := true, recurses := true, apart := false, narrowed := true }
def SchemaManyUptoSaid : Prop := schemaManyUptoRow.holds Tryz.pinned (OpenSpec.upto schemaManySpec)

/-- 'ecdysislaw09.SchemaAll', WHERE WHAT IT READS IS OF BULK AT MOST 1048576: true; the input reads as it did. -/
def schemaAllUptoRow : OpenClaim := { program := "yteembinfgbapgaagreat", sum := "7119a4a9e54ef8026ced936c92b625454fae387bf1952629c48e7ef64a8d42e1", func := "ecdysis/ecdysislaw09.SchemaAll", spec := "schemaAll", inPlace := ["math.Float64bits", "math.Float64frombits", "math.archTrunc"], unfollowed := true, recurses := true, apart := false, narrowed := true }
def SchemaAllUptoSaid : Prop := schemaAllUptoRow.holds Tryz.pinned (OpenSpec.upto schemaAllSpec)

/-- 'ecdysislaw09.SchemaUpgrades', WHERE WHAT IT READS IS OF BULK AT MOST 1048576: true; the input reads as it did. -/
def schemaUpgradesUptoRow : OpenClaim := { program := "yteembinfgbapgaagreat", sum := "7119a4a9e54ef8026ced936c92b625454fae387bf1952629c48e7ef64a8d42e1", func := "ecdysis/ecdysislaw09.SchemaUpgrades", spec := "schemaUpgrades", inPlace := ["math.Float64bits", "math.Float64frombits", "math.archTrunc"], unfollowed := true, recurses := true, apart := false, narrowed := true }
def SchemaUpgradesUptoSaid : Prop := schemaUpgradesUptoRow.holds Tryz.pinned (OpenSpec.upto schemaUpgradesSpec)

/-- 'ecdysislaw09.SchemaRetires', WHERE WHAT IT READS IS OF BULK AT MOST 1048576: true; the input reads as it did. -/
def schemaRetiresUptoRow : OpenClaim := { program := "yteembinfgbapgaagreat", sum := "7119a4a9e54ef8026ced936c92b625454fae387bf1952629c48e7ef64a8d42e1", func := "ecdysis/ecdysislaw09.SchemaRetires", spec := "schemaRetires", inPlace := ["math.Float64bits", "math.Float64frombits", "math.archTrunc"], unfollowed := true, recurses := true, apart := false, narrowed := true }
def SchemaRetiresUptoSaid : Prop := schemaRetiresUptoRow.holds Tryz.pinned (OpenSpec.upto schemaRetiresSpec)

/-- 'ecdysislaw09.SchemaErrors', WHERE WHAT IT READS IS OF BULK AT MOST 1048576: true; the input reads as it did. -/
def schemaErrorsUptoRow : OpenClaim := { program := "yteembinfgbapgaagreat", sum := "7119a4a9e54ef8026ced936c92b625454fae387bf1952629c48e7ef64a8d42e1", func := "ecdysis/ecdysislaw09.SchemaErrors", spec := "schemaErrors", inPlace := ["math.Float64bits", "math.Float64frombits", "math.archTrunc"], unfollowed := true, recurses := true, apart := false, narrowed := true }
def SchemaErrorsUptoSaid : Prop := schemaErrorsUptoRow.holds Tryz.pinned (OpenSpec.upto schemaErrorsSpec)

/-- 'ecdysislaw09.SchemaStays', WHERE WHAT IT READS IS OF BULK AT MOST 1048576: true; the input reads as it did. -/
def schemaStaysUptoRow : OpenClaim := { program := "yteembinfgbapgaagreat", sum := "7119a4a9e54ef8026ced936c92b625454fae387bf1952629c48e7ef64a8d42e1", func := "ecdysis/ecdysislaw09.SchemaStays", spec := "schemaStays", inPlace := ["math.Float64bits", "math.Float64frombits", "math.archTrunc"], unfollowed := true, recurses := true, apart := false, narrowed := true }
def SchemaStaysUptoSaid : Prop := schemaStaysUptoRow.holds Tryz.pinned (OpenSpec.upto schemaStaysSpec)

/-- 'ecdysislaw09.SchemaBytes', WHERE WHAT IT READS IS OF BULK AT MOST 1048576: true; the input reads as it did. -/
def schemaBytesUptoRow : OpenClaim := { program := "yteembinfgbapgaagreat", sum := "7119a4a9e54ef8026ced936c92b625454fae387bf1952629c48e7ef64a8d42e1", func := "ecdysis/ecdysislaw09.SchemaBytes", spec := "schemaBytes", inPlace := ["math.Float64bits", "math.Float64frombits", "math.archTrunc"], unfollowed := true, recurses := true, apart := false, narrowed := true }
def SchemaBytesUptoSaid : Prop := schemaBytesUptoRow.holds Tryz.pinned (OpenSpec.upto schemaBytesSpec)

end Rows
end Go.Proofs.YteembinfgbapgaaGreat
