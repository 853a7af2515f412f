/- Layer 5 of the heap, kinds, seventh part: bytes that are cast; every cast. -/
import Derived.Test.YtepfabijmhhhcaaKi
set_option linter.unusedSimpArgs false
set_option linter.unusedVariables false
namespace Go.Proofs.Ytepfabijmhhhcaa
open Go.RowKit

theorem casts_12 {k l l2 : Int} (h : castsB k l 12 l2 = true) : k = 12 ∧ mayB 12 l2 = true := by
  unfold castsB at h
  split at h
  · cases h
  · rename_i hz
    have hm : mayB 12 l2 = true := by
      by_cases hm : mayB 12 l2 = true
      · exact hm
      · exfalso; apply hz; right; simp [longZ, hm]
    refine ⟨?_, hm⟩
    simpa [btw] using h

def castT (tx : ByteArray) (k2 l2 : Int) : ByteArray := if k2 = 12 then strL (padL (bl tx) l2.toNat) else ⟨#[]⟩
def castV (vk bits : Int) (tx : ByteArray) (k l k2 l2 : Int) : Value := if rightB vk bits tx k l = true ∧ castsB k l k2 l2 = true then .agg #[.int .i64 k2, .int .u64 (castZ bits k k2), .string (castT tx k2 l2)] else .agg #[.int .i64 0, .int .u64 0, .string ⟨#[]⟩]
def castE (vk bits : Int) (tx : ByteArray) (k l k2 l2 : Int) : Int := if rightB vk bits tx k l = true then (if castsB k l k2 l2 = true then 0 else 51) else 50

end Go.Proofs.Ytepfabijmhhhcaa
