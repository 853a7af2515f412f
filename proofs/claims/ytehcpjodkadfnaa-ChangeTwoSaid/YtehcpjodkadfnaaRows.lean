/-
  No cell of these rows narrows 'for every input' (looked for: loops, veiled, ifaces, maps, wideKeys, modest, calm, conditions, laid).
  DERIVED. THE GIVEN ROWS OF THIS SEAT. 5 by the template 'for every input the law returns true; each argument reads behind the call as it read before'; 0 by the template 'total and deterministic' (their statements: YtehcpjodkadfnaaTotals.lean).
  GIVEN WITH THE SEED: the statements are not yours to turn. If you find one false, say at which input.
  Laid BY PROGRAM, IN A SANDBOX (cutbox-rows.mjs): the forced cells as the released guide's own fill.sh prints them over the translation 857256e2965b9285… (all of the seat's roots in one cut). By AI agents, Wed Nov 11 2026. No macro, syntax, notation, axiom, sorry.
-/
import Derived.Test.YtehcpjodkadfnaaChecked
import GoSem.Claim
import GoSem.ClaimJoined
import GoSem.ClaimMapViews
import Derived.JoinedTies
import Derived.KernelRfl
namespace Go.Proofs.Ytehcpjodkadfnaa
/- THE CELL 'sum', in the pinned program and in every row, IS THE sha256 OF THE DUMP (.gsa) THAT YtehcpjodkadfnaaProg.lean LOADS. Nothing in Lean hashes anything: it is a label: what it is worth is what the hold of that sum in a sandbox is worth. -/
noncomputable def Try.pinned : Pinned := { name := "ytehcpjodkadfnaa", sum := "857256e2965b928599066deaca592bb402fa805bdc25e2770ab8162d18597a36", checked := Try.checked }
namespace Rows
def none {H : Type} : Left H := { results := [], args := [] }

/-- 'ecdysislaw08.ChangeOne': WHATEVER THE INPUT: true; the input reads as it did. -/
def changeOneSpec : ChangeSpec := { name := "changeOne", fn := fun _ => fun
  | [d1, d2] => { results := [.lit (.bool true)], args := [d1, d2] }
  | _ => none }
def changeOneRow : OpenClaim := { program := "ytehcpjodkadfnaa", sum := "857256e2965b928599066deaca592bb402fa805bdc25e2770ab8162d18597a36", func := "ecdysis/ecdysislaw08.ChangeOne", spec := "changeOne", unfollowed := true, recurses := true, apart := false }
def ChangeOneSaid : Prop := changeOneRow.holds Try.pinned (OpenSpec.ofChange changeOneSpec)

/-- ITS FALSE NEIGHBOUR: 'it returns false'. Refute it at one input. -/
def changeOneWrong : ChangeSpec := { name := "changeOne", fn := fun _ => fun
  | [d1, d2] => { results := [.lit (.bool false)], args := [d1, d2] }
  | _ => none }
def ChangeOneWrongFalsely : Prop := changeOneRow.holds Try.pinned (OpenSpec.ofChange changeOneWrong)

/-- 'ecdysislaw08.ChangeBack': WHATEVER THE INPUT: true; the input reads as it did. -/
def changeBackSpec : ChangeSpec := { name := "changeBack", fn := fun _ => fun
  | [d1, d2, d3] => { results := [.lit (.bool true)], args := [d1, d2, d3] }
  | _ => none }
def changeBackRow : OpenClaim := { program := "ytehcpjodkadfnaa", sum := "857256e2965b928599066deaca592bb402fa805bdc25e2770ab8162d18597a36", func := "ecdysis/ecdysislaw08.ChangeBack", spec := "changeBack", unfollowed := true, recurses := true, apart := false }
def ChangeBackSaid : Prop := changeBackRow.holds Try.pinned (OpenSpec.ofChange changeBackSpec)

/-- ITS FALSE NEIGHBOUR: 'it returns false'. Refute it at one input. -/
def changeBackWrong : ChangeSpec := { name := "changeBack", fn := fun _ => fun
  | [d1, d2, d3] => { results := [.lit (.bool false)], args := [d1, d2, d3] }
  | _ => none }
def ChangeBackWrongFalsely : Prop := changeBackRow.holds Try.pinned (OpenSpec.ofChange changeBackWrong)

/-- 'ecdysislaw08.ChangeRight': WHATEVER THE INPUT: true; the input reads as it did. -/
def changeRightSpec : ChangeSpec := { name := "changeRight", fn := fun _ => fun
  | [d1, d2] => { results := [.lit (.bool true)], args := [d1, d2] }
  | _ => none }
def changeRightRow : OpenClaim := { program := "ytehcpjodkadfnaa", sum := "857256e2965b928599066deaca592bb402fa805bdc25e2770ab8162d18597a36", func := "ecdysis/ecdysislaw08.ChangeRight", spec := "changeRight", unfollowed := true, recurses := true, apart := false }
def ChangeRightSaid : Prop := changeRightRow.holds Try.pinned (OpenSpec.ofChange changeRightSpec)

/-- ITS FALSE NEIGHBOUR: 'it returns false'. Refute it at one input. -/
def changeRightWrong : ChangeSpec := { name := "changeRight", fn := fun _ => fun
  | [d1, d2] => { results := [.lit (.bool false)], args := [d1, d2] }
  | _ => none }
def ChangeRightWrongFalsely : Prop := changeRightRow.holds Try.pinned (OpenSpec.ofChange changeRightWrong)

/-- 'ecdysislaw08.ChangeAll': WHATEVER THE INPUT: true; the input reads as it did. -/
def changeAllSpec : ChangeSpec := { name := "changeAll", fn := fun _ => fun
  | [d1, d2] => { results := [.lit (.bool true)], args := [d1, d2] }
  | _ => none }
def changeAllRow : OpenClaim := { program := "ytehcpjodkadfnaa", sum := "857256e2965b928599066deaca592bb402fa805bdc25e2770ab8162d18597a36", func := "ecdysis/ecdysislaw08.ChangeAll", spec := "changeAll", inPlace := ["math.Float64bits", "math.Float64frombits", "math.archTrunc"], unfollowed := true, recurses := true, apart := false }
def ChangeAllSaid : Prop := changeAllRow.holds Try.pinned (OpenSpec.ofChange changeAllSpec)

/-- ITS FALSE NEIGHBOUR: 'it returns false'. Refute it at one input. -/
def changeAllWrong : ChangeSpec := { name := "changeAll", fn := fun _ => fun
  | [d1, d2] => { results := [.lit (.bool false)], args := [d1, d2] }
  | _ => none }
def ChangeAllWrongFalsely : Prop := changeAllRow.holds Try.pinned (OpenSpec.ofChange changeAllWrong)

/-- 'ecdysislaw08.ChangeTwo': WHATEVER THE INPUT: true; the input reads as it did. -/
def changeTwoSpec : ChangeSpec := { name := "changeTwo", fn := fun _ => fun
  | [d1, d2, d3] => { results := [.lit (.bool true)], args := [d1, d2, d3] }
  | _ => none }
def changeTwoRow : OpenClaim := { program := "ytehcpjodkadfnaa", sum := "857256e2965b928599066deaca592bb402fa805bdc25e2770ab8162d18597a36", func := "ecdysis/ecdysislaw08.ChangeTwo", spec := "changeTwo", inPlace := ["math.Float64bits", "math.Float64frombits", "math.archTrunc"], unfollowed := true, recurses := true, apart := false }
def ChangeTwoSaid : Prop := changeTwoRow.holds Try.pinned (OpenSpec.ofChange changeTwoSpec)

/-- ITS FALSE NEIGHBOUR: 'it returns false'. Refute it at one input. -/
def changeTwoWrong : ChangeSpec := { name := "changeTwo", fn := fun _ => fun
  | [d1, d2, d3] => { results := [.lit (.bool false)], args := [d1, d2, d3] }
  | _ => none }
def ChangeTwoWrongFalsely : Prop := changeTwoRow.holds Try.pinned (OpenSpec.ofChange changeTwoWrong)

/- THE SECOND FORM. 'bulk': how many values and letters a reading holds, each counted each time it is reached (what is shared counts as often as it is met; a slice's spare places count too). A statement '..UptoSaid' is the law's where the arguments, and the package variables that the reading takes, are together of bulk at most 1048576: NARROWER than '..Said'. Prove '..Said' where nothing that the law and all that it calls make is longer than what came in: it says more and counts as full. Else prove '..UptoSaid'. A law counts once. -/
mutual
def uptoBulk {H : Type} : DataW H → Nat
  | .lit (.string bytes) => bytes.length + 1
  | .lit _ => 1
  | .nil => 1
  | .ptr d => uptoBulk d + 1
  | .slice elems spare => uptoBulkAll elems + uptoBulkAll spare + 1
  | .agg parts => uptoBulkAll parts + 1
  | .iface _ d => uptoBulk d + 1
  | .map entries => uptoBulkEntries entries + 1
  | .held _ => 1
def uptoBulkAll {H : Type} : List (DataW H) → Nat
  | [] => 0
  | d :: r => uptoBulk d + uptoBulkAll r
def uptoBulkEntries {H : Type} : List (Lit × DataW H) → Nat
  | [] => 0
  | x :: r => uptoBulkEntry x + uptoBulkEntries r
def uptoBulkEntry {H : Type} : Lit × DataW H → Nat
  | (.string bytes, d) => bytes.length + uptoBulk d + 1
  | (_, d) => uptoBulk d + 1
 end
def uptoSmall : (H : Type) → List (DataW H) → Bool := fun _ ds => decide (uptoBulkAll ds ≤ 1048576)
def OpenSpec.upto (s : _root_.Go.ChangeSpec) : _root_.Go.OpenSpec := { _root_.Go.OpenSpec.ofChange s with cond := some uptoSmall }

/-- 'ecdysislaw08.ChangeOne', WHERE WHAT IT READS IS OF BULK AT MOST 1048576: true; the input reads as it did. -/
def changeOneUptoRow : OpenClaim := { program := "ytehcpjodkadfnaa", sum := "857256e2965b928599066deaca592bb402fa805bdc25e2770ab8162d18597a36", func := "ecdysis/ecdysislaw08.ChangeOne", spec := "changeOne", unfollowed := true, recurses := true, apart := false, narrowed := true }
def ChangeOneUptoSaid : Prop := changeOneUptoRow.holds Try.pinned (OpenSpec.upto changeOneSpec)

/-- 'ecdysislaw08.ChangeBack', WHERE WHAT IT READS IS OF BULK AT MOST 1048576: true; the input reads as it did. -/
def changeBackUptoRow : OpenClaim := { program := "ytehcpjodkadfnaa", sum := "857256e2965b928599066deaca592bb402fa805bdc25e2770ab8162d18597a36", func := "ecdysis/ecdysislaw08.ChangeBack", spec := "changeBack", unfollowed := true, recurses := true, apart := false, narrowed := true }
def ChangeBackUptoSaid : Prop := changeBackUptoRow.holds Try.pinned (OpenSpec.upto changeBackSpec)

/-- 'ecdysislaw08.ChangeRight', WHERE WHAT IT READS IS OF BULK AT MOST 1048576: true; the input reads as it did. -/
def changeRightUptoRow : OpenClaim := { program := "ytehcpjodkadfnaa", sum := "857256e2965b928599066deaca592bb402fa805bdc25e2770ab8162d18597a36", func := "ecdysis/ecdysislaw08.ChangeRight", spec := "changeRight", unfollowed := true, recurses := true, apart := false, narrowed := true }
def ChangeRightUptoSaid : Prop := changeRightUptoRow.holds Try.pinned (OpenSpec.upto changeRightSpec)

/-- 'ecdysislaw08.ChangeAll', WHERE WHAT IT READS IS OF BULK AT MOST 1048576: true; the input reads as it did. -/
def changeAllUptoRow : OpenClaim := { program := "ytehcpjodkadfnaa", sum := "857256e2965b928599066deaca592bb402fa805bdc25e2770ab8162d18597a36", func := "ecdysis/ecdysislaw08.ChangeAll", spec := "changeAll", inPlace := ["math.Float64bits", "math.Float64frombits", "math.archTrunc"], unfollowed := true, recurses := true, apart := false, narrowed := true }
def ChangeAllUptoSaid : Prop := changeAllUptoRow.holds Try.pinned (OpenSpec.upto changeAllSpec)

/-- 'ecdysislaw08.ChangeTwo', WHERE WHAT IT READS IS OF BULK AT MOST 1048576: true; the input reads as it did. -/
def changeTwoUptoRow : OpenClaim := { program := "ytehcpjodkadfnaa", sum := "857256e2965b928599066deaca592bb402fa805bdc25e2770ab8162d18597a36", func := "ecdysis/ecdysislaw08.ChangeTwo", spec := "changeTwo", inPlace := ["math.Float64bits", "math.Float64frombits", "math.archTrunc"], unfollowed := true, recurses := true, apart := false, narrowed := true }
def ChangeTwoUptoSaid : Prop := changeTwoUptoRow.holds Try.pinned (OpenSpec.upto changeTwoSpec)

end Rows
end Go.Proofs.Ytehcpjodkadfnaa
