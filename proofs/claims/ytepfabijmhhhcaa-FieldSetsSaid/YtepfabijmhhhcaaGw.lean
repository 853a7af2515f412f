/- Layer 6 of the heap, fields, twenty-third part: the law's example. -/
import Derived.Test.YtepfabijmhhhcaaGv
set_option linter.unusedSimpArgs false
set_option linter.unusedVariables false
namespace Go.Proofs.Ytepfabijmhhhcaa
open Go.RowKit

def L0 : List Fd := [⟨⟨#[97]⟩, 1, 0⟩, ⟨⟨#[98]⟩, 3, 0⟩, ⟨⟨#[99]⟩, 12, 3⟩, ⟨⟨#[100]⟩, 11, 0⟩]
def X0 : List UInt8 := [0, 0, 0, 0, 2, 1, 0, 0, 0, 0, 0, 0, 0, 0, 0, 0, 0, 0, 0, 0, 0, 0, 0, 0]
theorem al1 : sizeF L0 = 24 := by decide +kernel
theorem al2 : layL L0 = [0, 4, 8, 16] := by decide +kernel
theorem al3 : setB (List.replicate 24 0) L0 ⟨#[98]⟩ ⟨3, 258, ⟨#[]⟩⟩ = X0 := by decide +kernel
theorem al4 : setE (List.replicate 24 0) L0 ⟨#[98]⟩ ⟨3, 258, ⟨#[]⟩⟩ = 0 := by decide +kernel
theorem al5 : getE X0 L0 ⟨#[98]⟩ = 0 := by decide +kernel
theorem al6 : (getV X0 L0 ⟨#[98]⟩).b = 258 := by decide +kernel
theorem al7 : (wrL L0).length = 17 := by decide +kernel
theorem al8 : wrE L0 = 0 := by decide +kernel
theorem al9 : refsL L0 = [16] := by decide +kernel
theorem al10 : findZ L0 ⟨#[100]⟩ = 3 := by decide +kernel
set_option maxHeartbeats 4000000 in
theorem alive_calls (w : World) : Calls Try.prog 12 #[] w fun e w' => e = .returned (.bool true) ∧ Below w.heap.size w w' := by
  have hR : Rd (w.alloc (.cells (cellsF L0).toArray 40)) (some ⟨w.heap.size, 0, none⟩) (cellsF L0) := rd_new _ _ _
  have HB : Below w.heap.size w (w.alloc (.cells (cellsF L0).toArray 40)) := below_new _
  obtain ⟨v0, hv0⟩ : ∃ v, getV X0 L0 ⟨#[98]⟩ = v := ⟨_, rfl⟩
  have hvb : v0.b = 258 := by rw [← hv0]; exact al6
  obtain ⟨vk, vb, vt⟩ := v0
  obtain rfl : vb = 258 := hvb
  obtain ⟨xs, hxs⟩ : ∃ x, wrL L0 = x := ⟨_, rfl⟩
  have hxl : xs.length = 17 := by rw [← hxs]; exact al7
  have HV := Lib.hid hv0
  have HX := Lib.hid hxs
  have HXL := Lib.hid hxl
  have tok1 := True.intro
  clear hv0 hxs hxl
  go_enter Try.func12, Try.ntmps12
  go_wp2_with (first
    | (go_at_call 13; refine (Layout_m _ 4 4 L0 rfl 24 al1 [0, 4, 8, 16] al2 4 rfl _ hR (by omega)).mono ?_; rintro e w1 ⟨B1, c1, rfl, hr1, hb⟩; have HB := HB.trans (hb.mono HB.size); have hR := hR.below hb; clear hb)
    | (go_at_call 20; refine (New_m _ 4 4 L0 rfl 24 al1 _ hR (by omega)).mono ?_; rintro e w2 ⟨B2, c2, rfl, hc2, hr2, hb⟩; have HB := HB.trans (hb.mono HB.size); have hR := hR.below hb; have hr1 := hr1.below hb; clear hb)
    | (go_at_call 27; refine (Set_m _ 24 _ _ rfl _ 4 4 L0 rfl _ 3 258 ⟨#[]⟩ (by omega) (by omega) X0 al3 24 rfl 0 al4 _ hR (by omega) hr2).mono ?_; rintro e w3 ⟨B3, c3, rfl, hc3, hr3, hb⟩; have HB := HB.trans (hb.mono HB.size); have hR := hR.below hb; have hr1 := hr1.below hb; clear hb)
    | (go_at_call 25; refine (Get_m _ 24 _ X0 rfl _ 4 4 L0 rfl _ _ HV.out 0 al5 _ hR (by omega) hr3 hc3).mono ?_; rintro e w4 ⟨rfl, hb⟩; have HB := HB.trans (hb.mono HB.size); have hR := hR.below hb; have hr1 := hr1.below hb; clear hb; obtain ⟨g0, g1, g2⟩ := VBox.new w4 vk 258 vt; have HB := HB.alloc HB.size (.cells #[.int .i64 vk, .int .u64 258, .string vt] 37); have hR := hR.below (below_new (.cells #[.int .i64 vk, .int .u64 258, .string vt] 37)); have hr1 := hr1.below (below_new (.cells #[.int .i64 vk, .int .u64 258, .string vt] 37)))
    | (go_at_call 31; refine (Encode_m _ 4 4 L0 rfl _ HX.out 17 HXL.out 0 al8 _ hR (by omega)).mono ?_; rintro e w5 ⟨B5, c5, rfl, hc5, hr5, hb⟩; have HB := HB.trans (hb.mono HB.size); have hR := hR.below hb; have hr1 := hr1.below hb; obtain ⟨g0, g1, g2⟩ := VBox.below ⟨g0, g1, g2⟩ hb; clear hb; have hr6 := rd_new w5 (intsV [0, 4, 8, 16]) 3; have hr1 := hr1.below (below_new (.cells (intsV [0, 4, 8, 16]).toArray 3)); have hR := hR.below (below_new (.cells (intsV [0, 4, 8, 16]).toArray 3)); have HB := HB.alloc HB.size (.cells (intsV [0, 4, 8, 16]).toArray 3); obtain ⟨g0, g1, g2⟩ := VBox.alloc ⟨g0, g1, g2⟩ (.cells (intsV [0, 4, 8, 16]).toArray 3))
    | (have _t := tok1; go_at_call 17; refine (Same3_m _ _ _ _ 4 4 [0, 4, 8, 16] [0, 4, 8, 16] rfl rfl true rfl _ hr1 hr6 (by omega) (by omega)).mono ?_; rintro e w6 ⟨rfl, hb⟩; have HB := HB.trans (hb.mono HB.size); have hR := hR.below hb; obtain ⟨g0, g1, g2⟩ := VBox.below ⟨g0, g1, g2⟩ hb; clear hb tok1; have tok2 := True.intro)
    | (go_at_call 18; refine (Refs_m _ 4 4 L0 rfl [16] al9 1 rfl _ hR (by omega)).mono ?_; rintro e w7 ⟨B7, c7, rfl, hr7, hb⟩; have HB := HB.trans (hb.mono HB.size); have hR := hR.below hb; clear hb; have hr8 := rd_new w7 (intsV [16]) 3; have hr7 := hr7.below (below_new (.cells (intsV [16]).toArray 3)); have hR := hR.below (below_new (.cells (intsV [16]).toArray 3)); have HB := HB.alloc HB.size (.cells (intsV [16]).toArray 3))
    | (have _t := tok2; go_at_call 17; refine (Same3_m _ _ _ _ 1 1 [16] [16] rfl rfl true rfl _ hr7 hr8 (by omega) (by omega)).mono ?_; rintro e w8 ⟨rfl, hb⟩; have HB := HB.trans (hb.mono HB.size); have hR := hR.below hb; clear hb tok2)
    | (go_at_call 21; refine (Find_m _ 4 4 L0 rfl _ 3 al10 _ hR (by omega)).mono ?_; rintro e w9 ⟨rfl, hb⟩; have HB := HB.trans (hb.mono HB.size); clear hb))
  go_ret
  exact ⟨rfl, HB⟩
end Go.Proofs.Ytepfabijmhhhcaa
