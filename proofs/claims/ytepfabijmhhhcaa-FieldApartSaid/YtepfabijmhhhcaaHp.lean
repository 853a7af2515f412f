/- FieldApart, walked: it tells true. -/
import Derived.Test.YtepfabijmhhhcaaHa
set_option linter.unusedSimpArgs false
set_option linter.unusedVariables false
namespace Go.Proofs.Ytepfabijmhhhcaa
open Go.RowKit

set_option maxHeartbeats 4000000 in
theorem FieldApart_no (A : Option Addr) (c : Nat) (fs : List Fd) (hr : rightF fs = false) (w : World) (hA : Rd w A (cellsF fs)) (hl : fs.length ≤ 9223372036854775807) :
    Calls Try.prog 5 #[.slice A fs.length c] w fun e w' => e = .returned (.bool true) ∧ Below w.heap.size w w' := by
  have hfew := few_calls A c fs w hA hl
  have HB := Below.refl w.heap.size w
  have hz : sizeF fs = 0 := by simp [sizeF, hr]
  have hls : layL fs = [] := by simp [layL, hr]
  have hne : (0 : Int) != (fs.length : Int) := by
    cases fs with
    | nil => simp [rightF] at hr
    | cons f r => simp; omega
  have HZ := Lib.hid hz
  have HLS := Lib.hid hls
  clear hr hz hls
  obtain ⟨m, hm⟩ : ∃ m, fs.length = m := ⟨_, rfl⟩
  rw [hm] at hne hl hfew ⊢
  have HM := Lib.hid hm
  clear hm
  have hne2 : ((0 : Int) != (m : Int)) = true := hne
  clear hne
  go_enter Try.func5, Try.ntmps5
  go_wp2_with (first
    | (go_at_call 11; refine hfew.mono ?_; rintro e w1 ⟨rf, rfl, hr40, hb⟩; have HB := HB.trans (hb.mono HB.size); have hA := hA.below hb; clear hb hr40)
    | (go_at_call 12; refine (alive_calls _).mono ?_; rintro e wM ⟨rfl, hb⟩; have HB := HB.trans (hb.mono HB.size); clear hb)
    | (go_at_call 13; refine (Layout_m A c m fs HM.out 0 HZ.out [] HLS.out 0 rfl _ hA hl).mono ?_; rintro e wM ⟨B1, c1, rfl, r1, hb⟩; have HB := HB.trans (hb.mono HB.size); have hA := hA.below hb; clear hb))
  all_goals go_ret
  all_goals exact ⟨rfl, HB⟩
set_option maxHeartbeats 4000000 in
theorem FieldApart_yes (A : Option Addr) (c : Nat) (fs : List Fd) (hr : rightF fs = true) (w : World) (hA : Rd w A (cellsF fs)) (hl : fs.length ≤ 9223372036854775807) :
    Calls Try.prog 5 #[.slice A fs.length c] w fun e w' => e = .returned (.bool true) ∧ Below w.heap.size w w' := by
  obtain ⟨hmay, h16⟩ := rightF_may hr
  have hstep : ∀ (k : Nat) (f : Fd), fs[k]? = some f → ∃ a x y : Nat, endF 0 (fs.take k) = x ∧ endF 0 (fs.take (k + 1)) = y ∧ (layL fs)[k]? = some a ∧ x ≤ a ∧ y = a + f.n ∧ 0 < f.n ∧ f.n ≤ 64 ∧ y ≤ 100000 ∧ (f.k = 12 ∨ (¬ f.k = 12 ∧ a % f.n = 0)) := fun k f hf => by
    have hm := hmay f (List.mem_of_getElem? hf)
    have ha := atF_le (nx := endF 0 (fs.take k)) hm
    have hend := endF_le (nx := 0) (hmay.take (k + 1))
    have := List.length_take_le (k + 1) fs
    rw [List.length_take] at hend
    refine ⟨atF (endF 0 (fs.take k)) f, _, _, rfl, rfl, ?_, ha.2, (seqF_take hf).2, Fd.n_pos hm, f.n_le, by omega, ?_⟩
    · rw [layL, if_pos hr, List.getElem?_map, seqF_get 0 hf]; rfl
    · by_cases hk : f.k = 12
      · exact .inl hk
      · refine .inr ⟨hk, ?_⟩
        rw [atF, if_neg hk]; exact upN_mod _ _ (Fd.n_pos hm)
  have hend := endF_le (nx := 0) hmay
  have hup := upN_le (endF 0 fs) 8 (by omega)
  have hum := upN_mod (endF 0 fs) 8 (by omega)
  have hz : sizeF fs = upN (endF 0 fs) 8 := by simp [sizeF, hr]
  have hll := layL_length hr
  obtain ⟨ls, hls⟩ : ∃ x, layL fs = x := ⟨_, rfl⟩
  obtain ⟨en, hen⟩ : ∃ x, endF 0 fs = x := ⟨_, rfl⟩
  obtain ⟨z, hzz⟩ : ∃ x, upN en 8 = x := ⟨_, rfl⟩
  rw [hen] at hz hup hum hend
  rw [hzz] at hz hup hum
  rw [hls] at hll
  have hfew := few_calls A c fs w hA hl
  have HB := Below.refl w.heap.size w
  have HST := Lib.hid hstep
  have HZ := Lib.hid hz
  have HLS := Lib.hid hls
  have HLL := Lib.hid hll
  have HEN := Lib.hid hen
  clear hr hz hls hll hstep hen hzz
  obtain ⟨m, hm⟩ : ∃ m, fs.length = m := ⟨_, rfl⟩
  rw [hm] at hl hfew h16 ⊢
  have HM := Lib.hid hm
  have HLM : Hid (ls.length = m) := Lib.hid (HLL.out.trans hm)
  clear hm
  go_enter Try.func5, Try.ntmps5
  go_wp2_with (first
    | (go_at_call 11; refine hfew.mono ?_; rintro e w1 ⟨rf, rfl, hr40, hb⟩; have HB := HB.trans (hb.mono HB.size); have hA := hA.below hb; clear hb hr40)
    | (go_at_call 12; refine (alive_calls _).mono ?_; rintro e wM ⟨rfl, hb⟩; have HB := HB.trans (hb.mono HB.size); clear hb)
    | (go_at_call 13; refine (Layout_m A c m fs HM.out z HZ.out ls HLS.out m HLM.out _ hA hl).mono ?_; rintro e wM ⟨B1, c1, rfl, r1, hb⟩; have HB := HB.trans (hb.mono HB.size); have hA := hA.below hb; clear hb))
  all_goals first
    | (go_ret; exact ⟨rfl, HB⟩)
    | skip
  have HB0 := HB
  have hA0 := hA
  have r10 := r1
  clear HB hA r1
  go_loopw [5, 6, 7, 8, 35] (fun en _ _ _ i wr => ∃ (k x : Nat), k ≤ m ∧ i = .int .i64 k ∧ en = .int .i64 x ∧ Hid (endF 0 (fs.take k) = x) ∧ x ≤ 100000 ∧ Below w.heap.size w wr ∧ Rd wr A (cellsF fs) ∧ Rd wr B1 (intsV ls)) (fun _ _ _ _ i _ => m - (intOf i).toNat)
  case atStart => exact ⟨0, 0, by omega, rfl, rfl, Lib.hid rfl, by omega, HB0, hA0, r10⟩
  case round =>
    obtain ⟨k, x, hk, rfl, rfl, HX, hx1, HB, hA, r1⟩ := hrel
    clear HB0 hA0 r10
    by_cases hlt : k < m
    · obtain ⟨f, hf⟩ : ∃ f, fs[k]? = some f := ⟨_, List.getElem?_eq_getElem (by rw [HM.out]; exact hlt)⟩
      obtain ⟨a, x', y, hx', hy, hla, hxa, hya, hn0, hn1, hy1, hk12⟩ := HST.out k f hf
      obtain rfl : x' = x := hx'.symm.trans HX.out
      rw [HLS.out] at hla
      obtain ⟨ad, rfl, c0, c1, c2⟩ := hA.fld hf
      obtain ⟨bd, rfl, d0⟩ := r1.int hla
      have HN := Lib.hid f.n_eq.symm
      have F := FBox.new wr f.s f.k f.l
      have HB := HB.alloc HB.size (.cells #[.string f.s, .int .i64 f.k, .int .i64 f.l] 40)
      have hA := hA.below (below_new (.cells #[.string f.s, .int .i64 f.k, .int .i64 f.l] 40))
      have r1 := r1.below (below_new (.cells #[.string f.s, .int .i64 f.k, .int .i64 f.l] 40))
      have d0 := cell_below (B := 0) (below_new (.cells #[.string f.s, .int .i64 f.k, .int .i64 f.l] 40)) d0
      obtain ⟨F0, F1, F2⟩ := id F
      have HY := Lib.hid hy
      have HYA := Lib.hid hya
      have ha1 : a ≤ 100000 := by omega
      have h1 : decide ((a : Int) < (x' : Int)) = false := by simp; omega
      have h2 : decide ((f.n : Int) < 1) = false := by simp; omega
      have hi1 : (k : Int) < (m : Int) := by omega
      have hi0 : (0 : Int) ≤ (k : Int) := by omega
      have hnz : ((f.n : Int) == 0) = false := by simp; omega
      clear hf hla hy hya hx'
      rcases hk12 with hk12 | ⟨hk12, hmod⟩
      · have ht : (f.k != 12) = false := by rw [hk12]; rfl
        clear hk12
        go_wp2_with (go_at_call 29; refine (rLong_is _ _ _ _ HN.out _).mono ?_; rintro e wM ⟨rfl, hb⟩; have HB := HB.trans (hb.mono HB.size); have hA := hA.below hb; have r1 := r1.below hb; have F := F.below hb; obtain ⟨F0, F1, F2⟩ := id F; have d0 := cell_below (B := 0) hb d0; clear hb)
        go_roundw
        case rel => exact ⟨k + 1, y, by omega, by go_num, congrArg (Value.int .i64) (by have := HYA.out; omega), HY, hy1, HB, hA, r1⟩
        case measure => simp [intOf]; omega
      · have ht : (f.k != 12) = true := by simpa using hk12
        have hmz : ((a : Int) % (f.n : Int) != 0) = false := by
          have : ((a % f.n : Nat) : Int) = 0 := by rw [hmod]; rfl
          rw [Int.natCast_emod] at this
          rw [this]; rfl
        clear hk12 hmod
        go_wp2_with (go_at_call 29; refine (rLong_is _ _ _ _ HN.out _).mono ?_; rintro e wM ⟨rfl, hb⟩; have HB := HB.trans (hb.mono HB.size); have hA := hA.below hb; have r1 := r1.below hb; have F := F.below hb; obtain ⟨F0, F1, F2⟩ := id F; have d0 := cell_below (B := 0) hb d0; clear hb)
        go_roundw
        case rel => exact ⟨k + 1, y, by omega, by go_num, congrArg (Value.int .i64) (by have := HYA.out; omega), HY, hy1, HB, hA, r1⟩
        case measure => simp [intOf]; omega
    · obtain rfl : k = fs.length := by have := HM.out; omega
      have hxe : x = en := by have := HX.out; rw [List.take_length, HEN.out] at this; exact this.symm
      subst hxe
      have hxz : x ≤ z := by omega
      have e1 : decide (x ≤ z) = true := by simpa using hxz
      have e2 : decide ((z : Int) < (x : Int) + 8) = true := by simp; omega
      have e3 : ((z : Int) % 8 == 0) = true := by simp; omega
      have hmm := HM.out
      subst hmm
      clear hum hup hend
      go_wp2_with (go_at_call 12; refine (alive_calls _).mono ?_; rintro e wM ⟨rfl, hb⟩; have HB := HB.trans (hb.mono HB.size); clear hb)
      go_ret
      exact ⟨rfl, HB⟩
theorem FieldApart_calls (A : Option Addr) (c : Nat) (fs : List Fd) (w : World) (hA : Rd w A (cellsF fs)) (hl : fs.length ≤ 9223372036854775807) (hs : ∀ f ∈ fs, f.s.size ≤ 9223372036854775807) :
    Calls Try.prog 5 #[.slice A fs.length c] w fun e w' => e = .returned (.bool true) ∧ Below w.heap.size w w' := by
  cases hr : rightF fs
  · exact FieldApart_no A c fs hr w hA hl
  · exact FieldApart_yes A c fs hr w hA hl
end Go.Proofs.Ytepfabijmhhhcaa
