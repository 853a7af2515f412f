/- Layer 6 of the heap, fields, fifth part: which fields may be. -/
import Derived.Test.YtepfabijmhhhcaaGd
import Derived.Test.YtepfabijmhhhcaaKm
set_option linter.unusedSimpArgs false
set_option linter.unusedVariables false
namespace Go.Proofs.Ytepfabijmhhhcaa
open Go.RowKit

theorem long_zero (k l : Int) : longZ k l = 0 ↔ mayB k l = false := by
  cases hm : mayB k l
  · simp [longZ, hm]
  · simp only [Bool.true_eq_false, iff_false]
    by_cases hk : k = 12
    · subst hk
      have := btw_iff.1 (mayB_12 ▸ hm)
      rw [long_12 hm]; omega
    · have := long_cases hm hk; omega
theorem long_ge (k l : Int) : 0 ≤ longZ k l ∧ longZ k l ≤ 64 := by
  cases hm : mayB k l
  · have := (long_zero k l).2 hm; omega
  · by_cases hk : k = 12
    · subst hk
      have := btw_iff.1 (mayB_12 ▸ hm)
      rw [long_12 hm]; omega
    · have := long_cases hm hk; omega
def okF (fs : List Fd) (i : Nat) (f : Fd) : Bool := nameB f.s && mayB f.k f.l && decide (findZ fs f.s = i)
/-- which fields may be -/
def rightF (fs : List Fd) : Bool := decide (∀ i, ∀ h : i < fs.length, okF fs i (fs[i]'h) = true) && decide (fs.length ≤ 16)
theorem rightF_bad {fs : List Fd} {i : Nat} {f : Fd} (hi : fs[i]? = some f) (h : okF fs i f = false) : rightF fs = false := by
  rw [rightF, decide_eq_false, Bool.false_and]
  intro ha
  obtain ⟨hi1, hi2⟩ := List.getElem?_eq_some_iff.1 hi
  have := ha i hi1
  rw [hi2, h] at this; cases this
theorem rightF_end {fs : List Fd} (h : ∀ i f, i < fs.length → fs[i]? = some f → okF fs i f = true) : rightF fs = decide (fs.length ≤ 16) := by
  rw [rightF, decide_eq_true (fun i hi => h i _ hi (List.getElem?_eq_getElem hi)), Bool.true_and]
theorem findZ_le (fs : List Fd) (nm : ByteArray) (k : Nat) (f : Fd) (hk : fs[k]? = some f) (h : f.s = nm) : 0 ≤ findZ fs nm ∧ findZ fs nm ≤ k := by
  induction fs generalizing k with
  | nil => simp at hk
  | cons g r ih =>
    rw [findZ]
    split
    · omega
    · cases k with
      | zero => simp at hk; subst hk; contradiction
      | succ k =>
        have := ih k (by simpa using hk)
        split <;> omega
theorem Name_is (s : ByteArray) (r : Bool) (h : nameB s = r) (w : World) : Calls Try.prog 23 #[.string s] w fun e w' => e = .returned (.bool r) ∧ Below w.heap.size w w' := h ▸ Name_calls s w
theorem rName_is (s : ByteArray) (hs : s.size ≤ 9223372036854775807) (r : Bool) (h : nameB s = r) (w : World) : Calls Try.prog 24 #[.string s] w fun e w' => e = .returned (.bool r) ∧ Below w.heap.size w w' := h ▸ rName_calls s hs w
theorem Find_is (A : Option Addr) (c : Nat) (fs : List Fd) (nm : ByteArray) (r : Int) (h : findZ fs nm = r) (w : World) (hA : Rd w A (cellsF fs)) (hl : fs.length ≤ 9223372036854775807) :
    Calls Try.prog 21 #[.slice A fs.length c, .string nm] w fun e w' => e = .returned (.int .i64 r) ∧ Below w.heap.size w w' := h ▸ Find_calls A c fs nm w hA hl
theorem rFind_is (A : Option Addr) (c : Nat) (fs : List Fd) (nm : ByteArray) (r : Int) (h : findZ fs nm = r) (w : World) (hA : Rd w A (cellsF fs)) (hl : fs.length ≤ 9223372036854775807) :
    Calls Try.prog 22 #[.slice A fs.length c, .string nm] w fun e w' => e = .returned (.int .i64 r) ∧ w = w' := h ▸ rFind_calls A c fs nm w hA hl
/-- a field that is read in a row -/
theorem Rd.fld {w : World} {A : Option Addr} {fs : List Fd} (h : Rd w A (cellsF fs)) {k : Nat} {f : Fd} (hf : fs[k]? = some f) : ∃ ad, A = some ad ∧ w.cell? (ad.add (k * 3)) = some (.string f.s) ∧ w.cell? ⟨(ad.add (k * 3)).block, (ad.add (k * 3)).off + (0 + 1), none⟩ = some (.int .i64 f.k) ∧ w.cell? ⟨(ad.add (k * 3)).block, (ad.add (k * 3)).off + (1 + 1), none⟩ = some (.int .i64 f.l) := by
  obtain ⟨g0, g1, g2⟩ := cellsF_get fs k f hf
  obtain ⟨ad, rfl, h0⟩ := h.at g0
  obtain ⟨_, e1, h1⟩ := h.at g1
  obtain ⟨_, e2, h2⟩ := h.at g2
  cases e1; cases e2
  rw [add_part _ _ 0] at h1
  rw [add_part _ _ 1] at h2
  exact ⟨ad, rfl, h0, h1, h2⟩
theorem okF_split (fs : List Fd) (k : Nat) (f : Fd) : okF fs k f = false ∧ nameB f.s = false ∨ okF fs k f = false ∧ nameB f.s = true ∧ mayB f.k f.l = false ∨ okF fs k f = false ∧ nameB f.s = true ∧ mayB f.k f.l = true ∧ ¬ findZ fs f.s = k ∨ okF fs k f = true ∧ nameB f.s = true ∧ mayB f.k f.l = true ∧ findZ fs f.s = k := by
  unfold okF
  cases nameB f.s <;> cases mayB f.k f.l <;> by_cases h : findZ fs f.s = k <;> simp [h]
set_option maxHeartbeats 1600000 in
theorem FRight_calls (A : Option Addr) (c : Nat) (fs : List Fd) (w : World) (hA : Rd w A (cellsF fs)) (hl : fs.length ≤ 9223372036854775807) :
    Calls Try.prog 15 #[.slice A fs.length c] w fun e w' => e = .returned (.bool (rightF fs)) ∧ Below w.heap.size w w' := by
  obtain ⟨r, hr⟩ : ∃ r, rightF fs = r := ⟨_, rfl⟩
  rw [hr]
  have HR := Lib.hid hr
  clear hr
  go_enter Try.func15, Try.ntmps15
  go_wp2
  go_loopw [3, 4, 7] (fun _ _ i wr => ∃ k : Nat, k ≤ fs.length ∧ i = .int .i64 k ∧ Below w.heap.size w wr ∧ Hid (∀ i f, i < k → fs[i]? = some f → okF fs i f = true)) (fun _ _ i _ => fs.length - (intOf i).toNat)
  case atStart => exact ⟨0, by omega, rfl, Below.refl _ _, Lib.hid fun i f h => by omega⟩
  case round =>
    obtain ⟨k, hk, rfl, HB, hall⟩ := hrel
    have hAr := hA.below HB
    by_cases hlt : k < fs.length
    · obtain ⟨f, hf⟩ : ∃ f, fs[k]? = some f := ⟨_, List.getElem?_eq_getElem hlt⟩
      obtain ⟨ad, rfl, h0, h1, h2⟩ := hAr.fld hf
      have hB1 := HB.alloc HB.size (.cells #[.string f.s, .int .i64 f.k, .int .i64 f.l] 40)
      have F0 := FBox.new wr f.s f.k f.l
      have hA1 := hAr.below (below_new (.cells #[.string f.s, .int .i64 f.k, .int .i64 f.l] 40))
      clear hA hAr
      rcases okF_split fs k f with ⟨ho, hn⟩ | ⟨ho, hn, hm⟩ | ⟨ho, hn, hm, hz⟩ | ⟨ho, hn, hm, hz⟩
      · obtain rfl : r = false := HR.out.symm.trans (rightF_bad hf ho)
        have HN := Lib.hid hn
        clear ho hn hf HR hA1
        go_wp2_with (go_at_call 23; refine (Name_is _ _ HN.out _).mono ?_; rintro e w1 ⟨rfl, hb1⟩)
        go_ret
        exact ⟨rfl, hB1.trans (hb1.mono hB1.size)⟩
      · obtain rfl : r = false := HR.out.symm.trans (rightF_bad hf ho)
        have HN := Lib.hid hn
        have HL := Lib.hid ((long_zero _ _).2 hm)
        clear ho hn hf HR hA1 hm
        go_wp2_with (first
          | (go_at_call 23; refine (Name_is _ _ HN.out _).mono ?_; rintro e w1 ⟨rfl, hb1⟩; obtain ⟨c0, c1, c2⟩ := F0.below hb1; clear F0)
          | (go_at_call 37; refine (Long_is _ _ _ _ HL.out _).mono ?_; rintro e w2 ⟨rfl, hb2⟩))
        go_ret
        exact ⟨rfl, (hB1.trans (hb1.mono hB1.size)).trans (hb2.mono (Nat.le_trans hB1.size hb1.size))⟩
      · obtain rfl : r = false := HR.out.symm.trans (rightF_bad hf ho)
        have HN := Lib.hid hn
        obtain ⟨z, hz2⟩ : ∃ z, findZ fs f.s = z := ⟨_, rfl⟩
        obtain ⟨y, hy2⟩ : ∃ y, longZ f.k f.l = y := ⟨_, rfl⟩
        have ht : (z != (k : Int)) = true := by rw [← hz2]; simpa using hz
        have hy : (y == 0) = false := by
          rw [← hy2, beq_eq_false_iff_ne]
          intro h; rw [(long_zero _ _).1 h] at hm; cases hm
        have HL := Lib.hid hy2
        have HZ := Lib.hid hz2
        clear ho hn hf HR hm hz hz2 hy2
        go_wp2_with (first
          | (go_at_call 23; refine (Name_is _ _ HN.out _).mono ?_; rintro e w1 ⟨rfl, hb1⟩; obtain ⟨c0, c1, c2⟩ := F0.below hb1; clear F0)
          | (go_at_call 37; refine (Long_is _ _ _ _ HL.out _).mono ?_; rintro e w2 ⟨rfl, hb2⟩; obtain ⟨d0, d1, d2⟩ := FBox.below ⟨c0, c1, c2⟩ hb2; clear c0 c1 c2)
          | (go_at_call 21; refine (Find_is _ _ _ _ _ HZ.out _ ((hA1.below hb1).below hb2) hl).mono ?_; rintro e w3 ⟨rfl, hb3⟩))
        go_ret
        exact ⟨rfl, ((hB1.trans (hb1.mono hB1.size)).trans (hb2.mono (Nat.le_trans hB1.size hb1.size))).trans (hb3.mono (Nat.le_trans hB1.size (Nat.le_trans hb1.size hb2.size)))⟩
      · have hall2 : Hid (∀ i f, i < k + 1 → fs[i]? = some f → okF fs i f = true) := Lib.hid fun i g hi hg => by
          rcases (by omega : i < k ∨ i = k) with h2 | rfl
          · exact hall.out i g h2 hg
          · rw [hf] at hg; cases hg; exact ho
        have HN := Lib.hid hn
        obtain ⟨z, hz2⟩ : ∃ z, findZ fs f.s = z := ⟨_, rfl⟩
        obtain ⟨y, hy2⟩ : ∃ y, longZ f.k f.l = y := ⟨_, rfl⟩
        have ht : (z != (k : Int)) = false := by rw [← hz2, hz]; simp
        have hy : (y == 0) = false := by
          rw [← hy2, beq_eq_false_iff_ne]
          intro h; rw [(long_zero _ _).1 h] at hm; cases hm
        have HL := Lib.hid hy2
        have HZ := Lib.hid hz2
        clear ho hn hf HR hm hz hz2 hy2 hall
        go_wp2_with (first
          | (go_at_call 23; refine (Name_is _ _ HN.out _).mono ?_; rintro e w1 ⟨rfl, hb1⟩; obtain ⟨c0, c1, c2⟩ := F0.below hb1; clear F0)
          | (go_at_call 37; refine (Long_is _ _ _ _ HL.out _).mono ?_; rintro e w2 ⟨rfl, hb2⟩; obtain ⟨d0, d1, d2⟩ := FBox.below ⟨c0, c1, c2⟩ hb2; clear c0 c1 c2)
          | (go_at_call 21; refine (Find_is _ _ _ _ _ HZ.out _ ((hA1.below hb1).below hb2) hl).mono ?_; rintro e w3 ⟨rfl, hb3⟩))
        go_roundw
        case rel => exact ⟨k + 1, by omega, by go_num, ((hB1.trans (hb1.mono hB1.size)).trans (hb2.mono (Nat.le_trans hB1.size hb1.size))).trans (hb3.mono (Nat.le_trans hB1.size (Nat.le_trans hb1.size hb2.size))), hall2⟩
        case measure => simp [intOf]; omega
    · obtain rfl : k = fs.length := by omega
      have hn := rightF_end hall.out
      rw [HR.out] at hn
      subst hn
      clear HR hall hAr hA
      go_wp2
      go_ret
      refine ⟨ret_bool ?_, HB⟩
      rw [Bool.eq_iff_iff]
      simp only [decide_eq_true_eq]
      constructor <;> intro h <;> omega
set_option maxHeartbeats 1600000 in
theorem rFRight_calls (A : Option Addr) (c : Nat) (fs : List Fd) (w : World) (hA : Rd w A (cellsF fs)) (hl : fs.length ≤ 9223372036854775807) (hs : ∀ f ∈ fs, f.s.size ≤ 9223372036854775807) :
    Calls Try.prog 16 #[.slice A fs.length c] w fun e w' => e = .returned (.bool (rightF fs)) ∧ Below w.heap.size w w' := by
  obtain ⟨r, hr⟩ : ∃ r, rightF fs = r := ⟨_, rfl⟩
  rw [hr]
  have HR := Lib.hid hr
  clear hr
  go_enter Try.func16, Try.ntmps16
  go_wp2
  go_loopw [3] (fun i wr => ∃ k : Nat, k ≤ fs.length ∧ i = .int .i64 k ∧ Below w.heap.size w wr ∧ Hid (∀ i f, i < k → fs[i]? = some f → okF fs i f = true)) (fun i _ => fs.length - (intOf i).toNat)
  case atStart => exact ⟨0, by omega, rfl, Below.refl _ _, Lib.hid fun i f h => by omega⟩
  case round =>
    obtain ⟨k, hk, rfl, HB, hall⟩ := hrel
    have hAr := hA.below HB
    by_cases hlt : k < fs.length
    · obtain ⟨f, hf⟩ : ∃ f, fs[k]? = some f := ⟨_, List.getElem?_eq_getElem hlt⟩
      have hsz := hs f (List.mem_of_getElem? hf)
      obtain ⟨ad, rfl, h0, h1, h2⟩ := hAr.fld hf
      clear hA hs
      rcases okF_split fs k f with ⟨ho, hn⟩ | ⟨ho, hn, hm⟩ | ⟨ho, hn, hm, hz⟩ | ⟨ho, hn, hm, hz⟩
      · obtain rfl : r = false := HR.out.symm.trans (rightF_bad hf ho)
        have HN := Lib.hid hn
        clear ho hn hf HR hAr
        go_wp2_with (go_at_call 24; refine (rName_is _ hsz _ HN.out _).mono ?_; rintro e w1 ⟨rfl, hb1⟩)
        go_ret
        exact ⟨rfl, HB.trans (hb1.mono HB.size)⟩
      · obtain rfl : r = false := HR.out.symm.trans (rightF_bad hf ho)
        have HN := Lib.hid hn
        have HL := Lib.hid hm
        clear ho hn hf HR hm
        go_wp2_with (first
          | (go_at_call 24; refine (rName_is _ hsz _ HN.out _).mono ?_; rintro e w1 ⟨rfl, hb1⟩; have c0 := cell_below (B := 0) hb1 h0; have c1 := cell_below (B := 0) hb1 h1; have c2 := cell_below (B := 0) hb1 h2; clear h0 h1 h2)
          | (go_at_call 39; refine (rMay_is _ _ _ _ HL.out _).mono ?_; rintro e w2 ⟨rfl, hb2⟩))
        go_ret
        exact ⟨rfl, (HB.trans (hb1.mono HB.size)).trans (hb2.mono (Nat.le_trans HB.size hb1.size))⟩
      · obtain rfl : r = false := HR.out.symm.trans (rightF_bad hf ho)
        have HN := Lib.hid hn
        have HL := Lib.hid hm
        have hle := findZ_le fs f.s k f hf rfl
        obtain ⟨z, hz2⟩ : ∃ z, findZ fs f.s = z := ⟨_, rfl⟩
        rw [hz2] at hle
        have ht : decide (z < (k : Int)) = true := by rw [hz2] at hz; simp; omega
        have HZ := Lib.hid hz2
        clear ho hn hf HR hm hz hz2
        go_wp2_with (first
          | (go_at_call 24; refine (rName_is _ hsz _ HN.out _).mono ?_; rintro e w1 ⟨rfl, hb1⟩; have c0 := cell_below (B := 0) hb1 h0; have c1 := cell_below (B := 0) hb1 h1; have c2 := cell_below (B := 0) hb1 h2; clear h0 h1 h2)
          | (go_at_call 39; refine (rMay_is _ _ _ _ HL.out _).mono ?_; rintro e w2 ⟨rfl, hb2⟩; have d0 := cell_below (B := 0) hb2 c0; clear c0 c1 c2)
          | (go_at_call 22; refine (rFind_is _ _ _ _ _ HZ.out _ ((hAr.below hb1).below hb2) hl).mono ?_; rintro e w3 ⟨rfl, rfl⟩))
        go_ret
        exact ⟨rfl, (HB.trans (hb1.mono HB.size)).trans (hb2.mono (Nat.le_trans HB.size hb1.size))⟩
      · have hall2 : Hid (∀ i f, i < k + 1 → fs[i]? = some f → okF fs i f = true) := Lib.hid fun i g hi hg => by
          rcases (by omega : i < k ∨ i = k) with h2 | rfl
          · exact hall.out i g h2 hg
          · rw [hf] at hg; cases hg; exact ho
        have HN := Lib.hid hn
        have HL := Lib.hid hm
        obtain ⟨z, hz2⟩ : ∃ z, findZ fs f.s = z := ⟨_, rfl⟩
        have ht : decide (z < (k : Int)) = false := by rw [← hz2, hz]; simp
        have HZ := Lib.hid hz2
        clear ho hn hf HR hm hz hz2 hall
        go_wp2_with (first
          | (go_at_call 24; refine (rName_is _ hsz _ HN.out _).mono ?_; rintro e w1 ⟨rfl, hb1⟩; have c0 := cell_below (B := 0) hb1 h0; have c1 := cell_below (B := 0) hb1 h1; have c2 := cell_below (B := 0) hb1 h2; clear h0 h1 h2)
          | (go_at_call 39; refine (rMay_is _ _ _ _ HL.out _).mono ?_; rintro e w2 ⟨rfl, hb2⟩; have d0 := cell_below (B := 0) hb2 c0; clear c0 c1 c2)
          | (go_at_call 22; refine (rFind_is _ _ _ _ _ HZ.out _ ((hAr.below hb1).below hb2) hl).mono ?_; rintro e w3 ⟨rfl, rfl⟩))
        go_roundw
        case rel => exact ⟨k + 1, by omega, by go_num, (HB.trans (hb1.mono HB.size)).trans (hb2.mono (Nat.le_trans HB.size hb1.size)), hall2⟩
        case measure => simp [intOf]; omega
    · obtain rfl : k = fs.length := by omega
      have hn := rightF_end hall.out
      rw [HR.out] at hn
      subst hn
      clear HR hall hAr hA
      go_wp2
      go_ret
      refine ⟨ret_bool ?_, HB⟩
      rw [Bool.eq_iff_iff]
      simp only [decide_eq_true_eq]
      constructor <;> intro h <;> omega
end Go.Proofs.Ytepfabijmhhhcaa
