/- FieldLayouts, walked: it tells true. -/
import Derived.Test.YtepfabijmhhhcaaGw
set_option linter.unusedSimpArgs false
set_option linter.unusedVariables false
namespace Go.Proofs.Ytepfabijmhhhcaa
open Go.RowKit

set_option maxHeartbeats 4000000 in
theorem FieldLayouts_calls (A : Option Addr) (c : Nat) (fs : List Fd) (nm : ByteArray) (w : World) (hA : Rd w A (cellsF fs)) (hl : fs.length ≤ 9223372036854775807) (hs : ∀ f ∈ fs, f.s.size ≤ 9223372036854775807) (hn : nm.size ≤ 9223372036854775807) :
    Calls Try.prog 3 #[.slice A fs.length c, .string nm] w fun e w' => e = .returned (.bool true) ∧ Below w.heap.size w w' := by
  obtain ⟨z, hz⟩ : ∃ x, sizeF fs = x := ⟨_, rfl⟩
  obtain ⟨ls, hls⟩ : ∃ x, layL fs = x := ⟨_, rfl⟩
  obtain ⟨n, hn1⟩ : ∃ x, ls.length = x := ⟨_, rfl⟩
  obtain ⟨rs, hrs⟩ : ∃ x, refsL fs = x := ⟨_, rfl⟩
  obtain ⟨q, hq⟩ : ∃ x, rs.length = x := ⟨_, rfl⟩
  obtain ⟨r, hr⟩ : ∃ x, rightF fs = x := ⟨_, rfl⟩
  obtain ⟨k, hk⟩ : ∃ x, findZ fs nm = x := ⟨_, rfl⟩
  obtain ⟨y, hy⟩ : ∃ x, nameB nm = x := ⟨_, rfl⟩
  have hn63 : n ≤ 9223372036854775807 := by
    rw [← hn1, ← hls]
    cases hr2 : rightF fs
    · simp [layL, hr2]
    · rw [layL_length hr2]; exact hl
  have hq63 : q ≤ 9223372036854775807 := by
    rw [← hq, ← hrs]
    cases hr2 : rightF fs
    · simp [refsL, hr2]
    · rw [refsL, if_pos hr2]; have := refsS_le (seqF 0 fs); rw [seqF_length] at this; omega
  have HZ := Lib.hid hz
  have HLS := Lib.hid hls
  have HN := Lib.hid hn1
  have HRS := Lib.hid hrs
  have HQ := Lib.hid hq
  have HR := Lib.hid hr
  have HK := Lib.hid hk
  have HY := Lib.hid hy
  obtain ⟨m, hm⟩ : ∃ x, fs.length = x := ⟨_, rfl⟩
  have HM := Lib.hid hm
  have hfew := few_calls A c fs w hA hl
  rw [hm] at hl hfew ⊢
  have hbb : (r == r) = true := by simp
  have hyy : (y == y) = true := by simp
  have HB := Below.refl w.heap.size w
  have tok1 := True.intro
  clear hz hls hn1 hrs hq hr hk hy hm
  go_enter Try.func3, Try.ntmps3
  go_wp2_with (first
    | (go_at_call 11; refine hfew.mono ?_; rintro e w1 ⟨rf, rfl, hr40, hb⟩; have HB := HB.trans (hb.mono HB.size); have hA := hA.below hb; clear hb hr40)
    | (have _t := tok1; go_at_call 13; refine (Layout_m A c m fs HM.out z HZ.out ls HLS.out n HN.out _ hA hl).mono ?_; rintro e wM ⟨B1, c1, rfl, r1, hb⟩; have HB := HB.trans (hb.mono HB.size); have hA := hA.below hb; clear hb tok1; have tok2 := True.intro)
    | (have _t := tok2; go_at_call 14; refine (rLayout_m A c m fs HM.out z HZ.out ls HLS.out n HN.out _ hA hl hs).mono ?_; rintro e wM ⟨B2, c2, rfl, r2, hb⟩; have HB := HB.trans (hb.mono HB.size); have hA := hA.below hb; have r1 := r1.below hb; clear hb tok2; have tok3 := True.intro)
    | (have _t := tok3; go_at_call 12; refine (alive_calls _).mono ?_; rintro e wM ⟨rfl, hb⟩; have HB := HB.trans (hb.mono HB.size); have hA := hA.below hb; have r1 := r1.below hb; have r2 := r2.below hb; clear hb tok3; have tok4 := True.intro)
    | (go_at_call 12; refine (alive_calls _).mono ?_; rintro e wM ⟨rfl, hb⟩; have HB := HB.trans (hb.mono HB.size); clear hb)
    | (go_at_call 15; refine (Right_m A c m fs HM.out r HR.out _ hA hl).mono ?_; rintro e wM ⟨rfl, hb⟩; have HB := HB.trans (hb.mono HB.size); have hA := hA.below hb; have r1 := r1.below hb; have r2 := r2.below hb; clear hb)
    | (go_at_call 16; refine (rRight_m A c m fs HM.out r HR.out _ hA hl hs).mono ?_; rintro e wM ⟨rfl, hb⟩; have HB := HB.trans (hb.mono HB.size); have hA := hA.below hb; have r1 := r1.below hb; have r2 := r2.below hb; clear hb)
    | (have _t := tok4; go_at_call 17; refine (Same3_m B1 B2 c1 c2 n n ls ls HN.out HN.out true (by simp) _ r1 r2 hn63 hn63).mono ?_; rintro e wM ⟨rfl, hb⟩; have HB := HB.trans (hb.mono HB.size); have hA := hA.below hb; clear hb tok4; have tok5 := True.intro)
    | (have _t := tok5; go_at_call 18; refine (Refs_m A c m fs HM.out rs HRS.out q HQ.out _ hA hl).mono ?_; rintro e wM ⟨B3, c3, rfl, r3, hb⟩; have HB := HB.trans (hb.mono HB.size); have hA := hA.below hb; clear hb tok5; have tok6 := True.intro)
    | (have _t := tok6; go_at_call 19; refine (rRefs_m A c m fs HM.out rs HRS.out q HQ.out _ hA hl hs).mono ?_; rintro e wM ⟨B4, c4, rfl, r4, hb⟩; have HB := HB.trans (hb.mono HB.size); have hA := hA.below hb; have r3 := r3.below hb; clear hb tok6; have tok7 := True.intro)
    | (have _t := tok7; go_at_call 17; refine (Same3_m B3 B4 c3 c4 q q rs rs HQ.out HQ.out true (by simp) _ r3 r4 hq63 hq63).mono ?_; rintro e wM ⟨rfl, hb⟩; have HB := HB.trans (hb.mono HB.size); have hA := hA.below hb; clear hb tok7; have tok8 := True.intro)
    | (go_at_call 20; refine (New_m A c m fs HM.out z HZ.out _ hA hl).mono ?_; rintro e wM ⟨B5, c5, rfl, hc5, r5, hb⟩; have HB := HB.trans (hb.mono HB.size); have hA := hA.below hb; clear hb)
    | (go_at_call 21; refine (Find_m A c m fs HM.out nm k HK.out _ hA hl).mono ?_; rintro e wM ⟨rfl, hb⟩; have HB := HB.trans (hb.mono HB.size); have hA := hA.below hb; clear hb)
    | (go_at_call 22; refine (rFind_m A c m fs HM.out nm k HK.out _ hA hl).mono ?_; rintro e w' ⟨rfl, rfl⟩)
    | (go_at_call 23; refine (Name_is nm y HY.out _).mono ?_; rintro e wM ⟨rfl, hb⟩; have HB := HB.trans (hb.mono HB.size); clear hb)
    | (go_at_call 24; refine (rName_is nm hn y HY.out _).mono ?_; rintro e wM ⟨rfl, hb⟩; have HB := HB.trans (hb.mono HB.size); clear hb))
  all_goals go_ret
  all_goals exact ⟨rfl, HB⟩
end Go.Proofs.Ytepfabijmhhhcaa
