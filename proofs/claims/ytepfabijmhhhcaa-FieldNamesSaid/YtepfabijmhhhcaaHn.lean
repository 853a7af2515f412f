/- FieldNames, walked: it tells true. -/
import Derived.Test.YtepfabijmhhhcaaHa
set_option linter.unusedSimpArgs false
set_option linter.unusedVariables false
namespace Go.Proofs.Ytepfabijmhhhcaa
open Go.RowKit

set_option maxHeartbeats 4000000 in
theorem FieldNames_no (A : Option Addr) (c : Nat) (fs : List Fd) (nm : ByteArray) (hr : rightF fs = false) (w : World) (hA : Rd w A (cellsF fs)) (hl : fs.length ≤ 9223372036854775807) :
    Calls Try.prog 8 #[.slice A fs.length c, .string nm] w fun e w' => e = .returned (.bool true) ∧ Below w.heap.size w w' := by
  have HR := Lib.hid hr
  have hfew := few_calls A c fs w hA hl
  have HB := Below.refl w.heap.size w
  clear hr
  go_enter Try.func8, Try.ntmps8
  go_wp2_with (first
    | (go_at_call 11; refine hfew.mono ?_; rintro e w1 ⟨rf, rfl, hr40, hb⟩; have HB := HB.trans (hb.mono HB.size); have hA := hA.below hb; clear hb hr40)
    | (go_at_call 12; refine (alive_calls _).mono ?_; rintro e wM ⟨rfl, hb⟩; have HB := HB.trans (hb.mono HB.size); clear hb)
    | (go_at_call 15; refine (Right_m A c fs.length fs rfl false HR.out _ hA hl).mono ?_; rintro e wM ⟨rfl, hb⟩; have HB := HB.trans (hb.mono HB.size); have hA := hA.below hb; clear hb))
  all_goals go_ret
  all_goals exact ⟨rfl, HB⟩
set_option maxHeartbeats 4000000 in
theorem FieldNames_yes (A : Option Addr) (c : Nat) (fs : List Fd) (nm : ByteArray) (hr : rightF fs = true) (w : World) (hA : Rd w A (cellsF fs)) (hl : fs.length ≤ 9223372036854775807) :
    Calls Try.prog 8 #[.slice A fs.length c, .string nm] w fun e w' => e = .returned (.bool true) ∧ Below w.heap.size w w' := by
  have hok : ∀ (k : Nat) (f : Fd), fs[k]? = some f → nameB f.s = true ∧ mayB f.k f.l = true ∧ findZ fs f.s = k := fun k f hf => rightF_ok hr hf
  have HR := Lib.hid hr
  have HOK := Lib.hid hok
  have hfew := few_calls A c fs w hA hl
  have HB := Below.refl w.heap.size w
  clear hr hok
  go_enter Try.func8, Try.ntmps8
  go_wp2_with (first
    | (go_at_call 11; refine hfew.mono ?_; rintro e w1 ⟨rf, rfl, hr40, hb⟩; have HB := HB.trans (hb.mono HB.size); have hA := hA.below hb; clear hb hr40)
    | (go_at_call 12; refine (alive_calls _).mono ?_; rintro e wM ⟨rfl, hb⟩; have HB := HB.trans (hb.mono HB.size); clear hb)
    | (go_at_call 15; refine (Right_m A c fs.length fs rfl true HR.out _ hA hl).mono ?_; rintro e wM ⟨rfl, hb⟩; have HB := HB.trans (hb.mono HB.size); have hA := hA.below hb; clear hb))
  all_goals first
    | (go_ret; exact ⟨rfl, HB⟩)
    | skip
  obtain ⟨w0, hw0⟩ : ∃ x : World, x = wM := ⟨_, rfl⟩
  subst hw0
  have HB0 := HB
  have hA0 := hA
  clear HB hA
  go_loopw [5, 6, 7, 24] (fun kn _ _ i wr => ∃ k : Nat, k ≤ fs.length ∧ i = .int .i64 k ∧ kn = .bool (decide (0 ≤ findZ (fs.take k) nm)) ∧ Below w.heap.size w wr ∧ Rd wr A (cellsF fs)) (fun _ _ _ i _ => fs.length - (intOf i).toNat)
  case atStart => exact ⟨0, by omega, rfl, rfl, HB0, hA0⟩
  case round =>
    obtain ⟨k, hk, rfl, rfl, HB, hA⟩ := hrel
    clear HB0 hA0
    by_cases hlt : k < fs.length
    · obtain ⟨f, hf⟩ : ∃ f, fs[k]? = some f := ⟨_, List.getElem?_eq_getElem hlt⟩
      obtain ⟨hn, _, hfz⟩ := HOK.out k f hf
      obtain ⟨ad, rfl, c0, c1, c2⟩ := hA.fld hf
      have F := FBox.new wr f.s f.k f.l
      have HB := HB.alloc HB.size (.cells #[.string f.s, .int .i64 f.k, .int .i64 f.l] 40)
      have hA := hA.below (below_new (.cells #[.string f.s, .int .i64 f.k, .int .i64 f.l] 40))
      obtain ⟨F0, F1, F2⟩ := id F
      have hsn := findZ_snoc (fs.take k) f nm
      have e : fs.take (k + 1) = fs.take k ++ [f] := by rw [List.take_add_one, hf]; rfl
      rw [← e] at hsn
      obtain ⟨a1, ha1⟩ : ∃ x, decide (0 ≤ findZ (fs.take k) nm) = x := ⟨_, rfl⟩
      obtain ⟨b1, hb1⟩ : ∃ x, decide (f.s = nm) = x := ⟨_, rfl⟩
      have hbe : (f.s.toList == nm.toList) = b1 := by rw [name_beq]; exact hb1
      rw [ha1, hb1] at hsn
      rw [ha1]
      have HS := Lib.hid hsn
      have HN := Lib.hid hn
      have HF := Lib.hid hfz
      clear hsn hn hfz ha1 hb1 e hf
      cases a1 <;> cases b1
      all_goals
        go_wp2_with (first
          | (go_at_call 21; refine (Find_m (some ad) c fs.length fs rfl f.s k HF.out _ hA hl).mono ?_; rintro e wM ⟨rfl, hb⟩; have HB := HB.trans (hb.mono HB.size); have hA := hA.below hb; have F := F.below hb; obtain ⟨F0, F1, F2⟩ := id F; clear hb)
          | (go_at_call 23; refine (Name_is f.s true HN.out _).mono ?_; rintro e wM ⟨rfl, hb⟩; have HB := HB.trans (hb.mono HB.size); have hA := hA.below hb; have F := F.below hb; obtain ⟨F0, F1, F2⟩ := id F; clear hb))
        go_roundw
        case rel => exact ⟨k + 1, by omega, by go_num, by rw [HS.out]; rfl, HB, hA⟩
        case measure => simp [intOf]; omega
    · obtain rfl : k = fs.length := by omega
      rw [List.take_length]
      obtain ⟨z, hz⟩ : ∃ x, findZ fs nm = x := ⟨_, rfl⟩
      rw [hz]
      have HZ := Lib.hid hz
      clear hz
      have hdd : (decide (0 ≤ z) == decide (0 ≤ z)) = true := by simp
      by_cases hz0 : 0 ≤ z
      · have hd : decide (0 ≤ z) = true := by simpa using hz0
        clear hz0
        go_wp2_with (first
          | (go_at_call 12; refine (alive_calls _).mono ?_; rintro e wM ⟨rfl, hb⟩; have HB := HB.trans (hb.mono HB.size); have hA := hA.below hb; clear hb)
          | (go_at_call 21; refine (Find_m A c fs.length fs rfl nm z HZ.out _ hA hl).mono ?_; rintro e wM ⟨rfl, hb⟩; have HB := HB.trans (hb.mono HB.size); have hA := hA.below hb; clear hb))
        go_ret
        exact ⟨rfl, HB⟩
      · have hd : decide (0 ≤ z) = false := by simpa using hz0
        clear hz0
        go_wp2_with (first
          | (go_at_call 12; refine (alive_calls _).mono ?_; rintro e wM ⟨rfl, hb⟩; have HB := HB.trans (hb.mono HB.size); have hA := hA.below hb; clear hb)
          | (go_at_call 21; refine (Find_m A c fs.length fs rfl nm z HZ.out _ hA hl).mono ?_; rintro e wM ⟨rfl, hb⟩; have HB := HB.trans (hb.mono HB.size); have hA := hA.below hb; clear hb))
        go_ret
        exact ⟨rfl, HB⟩
theorem FieldNames_calls (A : Option Addr) (c : Nat) (fs : List Fd) (nm : ByteArray) (w : World) (hA : Rd w A (cellsF fs)) (hl : fs.length ≤ 9223372036854775807) (hs : ∀ f ∈ fs, f.s.size ≤ 9223372036854775807) (hn : nm.size ≤ 9223372036854775807) :
    Calls Try.prog 8 #[.slice A fs.length c, .string nm] w fun e w' => e = .returned (.bool true) ∧ Below w.heap.size w w' := by
  cases hr : rightF fs
  · exact FieldNames_no A c fs nm hr w hA hl
  · exact FieldNames_yes A c fs nm hr w hA hl
end Go.Proofs.Ytepfabijmhhhcaa
