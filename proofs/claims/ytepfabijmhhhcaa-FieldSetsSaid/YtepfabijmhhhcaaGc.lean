/- Layer 6 of the heap, fields, third part: which texts may be names. -/
import Derived.Test.YtepfabijmhhhcaaGb
import Derived.Laws.RangeAny
set_option linter.unusedSimpArgs false
set_option linter.unusedVariables false
namespace Go.Proofs.Ytepfabijmhhhcaa
open Go.RowKit

/-- may a byte stand at a place of a name? -/
def signB (i b : Nat) : Bool := decide (97 ≤ b ∧ b ≤ 122) || (decide (i ≠ 0) && decide ((48 ≤ b ∧ b ≤ 57) ∨ b = 95))
def nameB (s : ByteArray) : Bool := decide (∀ i, ∀ h : i < s.size, signB i (s[i]'h).toNat = true) && decide (1 ≤ s.size ∧ s.size ≤ 15)
theorem nameB_bad {s : ByteArray} {i : Nat} (h : i < s.size) (hb : signB i (s[i]'h).toNat = false) : nameB s = false := by
  rw [nameB, decide_eq_false, Bool.false_and]
  intro ha
  have := ha i h
  rw [hb] at this; cases this
theorem rune_at (s : ByteArray) (pos : Nat) (h : pos < s.size) : ((s[pos]'h).toNat < 128 ∧ Utf8.decode s pos = ((s[pos]'h).toNat, 1)) ∨ (128 ≤ (s[pos]'h).toNat ∧ 128 ≤ (Utf8.decode s pos).1 ∧ 1 ≤ (Utf8.decode s pos).2) := by
  by_cases ha : (s[pos]'h).toNat < 128
  · exact .inl ⟨ha, decode_ascii s pos h ha⟩
  · exact .inr ⟨by omega, decode_high s pos h (by omega)⟩
theorem rune_sign (s : ByteArray) (pos : Nat) (h : pos < s.size) : ∃ y wd, Utf8.decode s pos = (y, wd) ∧ signB pos (s[pos]'h).toNat = signB pos y ∧ 1 ≤ wd ∧ (signB pos y = true → wd = 1) := by
  rcases rune_at s pos h with ⟨ha, hd⟩ | ⟨ha, hd1, hd2⟩
  · exact ⟨_, _, hd, rfl, Nat.le_refl _, fun _ => rfl⟩
  · have big : ∀ z, 128 ≤ z → signB pos z = false := fun z hz => by
      unfold signB
      rw [decide_eq_false (by omega), Bool.false_or, decide_eq_false (p := (48 ≤ z ∧ z ≤ 57) ∨ z = 95) (by omega), Bool.and_false]
    generalize Utf8.decode s pos = p at hd1 hd2 ⊢
    obtain ⟨y, wd⟩ := p
    exact ⟨y, wd, rfl, (big _ ha).trans (big y hd1).symm, hd2, fun h => by rw [big y hd1] at h; cases h⟩
/-- what is asked of a sign, told apart -/
theorem sign_ways (y pos : Nat) :
    (signB pos y = true ∧ decide (97 ≤ (y : Int)) = true ∧ decide ((y : Int) ≤ 122) = true)
    ∨ (signB pos y = false ∧ decide (97 ≤ (y : Int)) = false ∧ ((pos : Int) == 0) = true)
    ∨ (signB pos y = false ∧ decide (97 ≤ (y : Int)) = true ∧ decide ((y : Int) ≤ 122) = false ∧ ((pos : Int) == 0) = true)
    ∨ (signB pos y = true ∧ decide (97 ≤ (y : Int)) = false ∧ ((pos : Int) == 0) = false ∧ decide ((y : Int) < 48) = false ∧ decide (57 < (y : Int)) = false)
    ∨ (signB pos y = false ∧ decide (97 ≤ (y : Int)) = false ∧ ((pos : Int) == 0) = false ∧ decide ((y : Int) < 48) = true ∧ ((y : Int) != 95) = true)
    ∨ (signB pos y = false ∧ decide (97 ≤ (y : Int)) = false ∧ ((pos : Int) == 0) = false ∧ decide ((y : Int) < 48) = false ∧ decide (57 < (y : Int)) = true ∧ ((y : Int) != 95) = true)
    ∨ (signB pos y = true ∧ decide (97 ≤ (y : Int)) = false ∧ ((pos : Int) == 0) = false ∧ decide ((y : Int) < 48) = false ∧ decide (57 < (y : Int)) = true ∧ ((y : Int) != 95) = false)
    ∨ (signB pos y = false ∧ decide (97 ≤ (y : Int)) = true ∧ decide ((y : Int) ≤ 122) = false ∧ ((pos : Int) == 0) = false ∧ decide ((y : Int) < 48) = false ∧ decide (57 < (y : Int)) = true ∧ ((y : Int) != 95) = true) := by
  have e1 : decide (97 ≤ (y : Int)) = decide (97 ≤ y) := by rw [Bool.eq_iff_iff]; simp; omega
  have e2 : decide ((y : Int) ≤ 122) = decide (y ≤ 122) := by rw [Bool.eq_iff_iff]; simp; omega
  have e3 : ((pos : Int) == 0) = decide (pos = 0) := by rw [Bool.eq_iff_iff]; simp
  have e4 : decide ((y : Int) < 48) = decide (y < 48) := by rw [Bool.eq_iff_iff]; simp; omega
  have e5 : decide (57 < (y : Int)) = decide (57 < y) := by rw [Bool.eq_iff_iff]; simp; omega
  have e6 : ((y : Int) != 95) = !decide (y = 95) := by rw [Bool.eq_iff_iff]; simp; omega
  have e0 : signB pos y = ((decide (97 ≤ y) && decide (y ≤ 122)) || (!decide (pos = 0) && ((!decide (y < 48) && !decide (57 < y)) || decide (y = 95)))) := by
    rw [Bool.eq_iff_iff]; simp [signB]
  rw [e0, e1, e2, e3, e4, e5, e6]
  have i1 : decide (97 ≤ y) = false → decide (y ≤ 122) = true := by simp; omega
  have i2 : decide (97 ≤ y) = true → decide (y < 48) = false ∧ decide (57 < y) = true ∧ decide (y = 95) = false := by simp; omega
  have i3 : decide (y < 48) = true → decide (57 < y) = false ∧ decide (y = 95) = false := by simp; omega
  have i4 : decide (57 < y) = false → decide (y = 95) = false := by simp; omega
  generalize decide (97 ≤ y) = A at *
  generalize decide (y ≤ 122) = B at *
  generalize decide (pos = 0) = C at *
  generalize decide (y < 48) = D at *
  generalize decide (57 < y) = E at *
  generalize decide (y = 95) = F at *
  clear e0 e1 e2 e3 e4 e5 e6
  revert i1 i2 i3 i4
  cases A <;> cases B <;> cases C <;> cases D <;> cases E <;> cases F <;> decide
set_option maxHeartbeats 1600000 in
theorem Name_calls (s : ByteArray) (w : World) : Calls Try.prog 23 #[.string s] w fun e w' => e = .returned (.bool (nameB s)) ∧ Below w.heap.size w w' := by
  obtain ⟨r, hr⟩ : ∃ r, nameB s = r := ⟨_, rfl⟩
  rw [hr]
  go_enter Try.func23, Try.ntmps23
  go_wp2
  go_loopw [3, 4, 5] (fun _ _ _ w' => ∃ pos : Nat, w' = w.iter s pos ∧ pos ≤ s.size ∧ ∀ i, ∀ h : i < s.size, i < pos → signB i (s[i]'h).toNat = true) (fun _ _ _ w' => s.size - w'.iterPos w.heap.size)
  case atStart => exact ⟨0, rfl, by omega, fun i h h0 => by omega⟩
  case round =>
    obtain ⟨pos, rfl, hle, hall⟩ := hrel
    by_cases hp : pos < s.size
    · have hnx : ∀ ty, (Instr.next (.pointer (some ⟨w.heap.size, 0, none⟩)) true ty).run Try.prog (w.iter s pos) = _ := fun ty => run_next_any w s pos ty hp
      obtain ⟨y, wd, hd, hsy, hwd, hw1⟩ := rune_sign s pos hp
      rw [hd] at hnx
      have hbad := fun h => (hr.symm.trans (nameB_bad hp (hsy.trans h)) : r = false)
      have hok : signB pos y = true → ∀ i, ∀ h : i < s.size, i < pos + wd → signB i (s[i]'h).toNat = true := fun h i hi hlt => by
        have := hw1 h
        rcases (by omega : i < pos ∨ i = pos) with h2 | rfl
        · exact hall i hi h2
        · exact hsy.trans h
      have hle2 : signB pos y = true → pos + wd ≤ s.size := fun h => by have := hw1 h; omega
      clear hall hr hsy hd hw1
      rcases sign_ways y pos with ⟨hs, h1, h2⟩ | ⟨hs, h1, h2⟩ | ⟨hs, h1, h2, h3⟩ | ⟨hs, h1, h2, h3, h4⟩ | ⟨hs, h1, h2, h3, h4⟩ | ⟨hs, h1, h2, h3, h4, h5⟩ | ⟨hs, h1, h2, h3, h4, h5⟩ | ⟨hs, h1, h2, h3, h4, h5, h6⟩
      · have hok := hok hs
        have hle2 := hle2 hs
        clear hbad hs
        go_wp2
        go_roundw
        case rel => exact ⟨pos + wd, rfl, hle2, hok⟩
        case measure => simp; omega
      · obtain rfl := hbad hs
        clear hok hle2 hs hbad
        go_wp2
        go_ret
        exact ⟨rfl, below_new _⟩
      · obtain rfl := hbad hs
        clear hok hle2 hs hbad
        go_wp2
        go_ret
        exact ⟨rfl, below_new _⟩
      · have hok := hok hs
        have hle2 := hle2 hs
        clear hbad hs
        go_wp2
        go_roundw
        case rel => exact ⟨pos + wd, rfl, hle2, hok⟩
        case measure => simp; omega
      · obtain rfl := hbad hs
        clear hok hle2 hs hbad
        go_wp2
        go_ret
        exact ⟨rfl, below_new _⟩
      · obtain rfl := hbad hs
        clear hok hle2 hs hbad
        go_wp2
        go_ret
        exact ⟨rfl, below_new _⟩
      · have hok := hok hs
        have hle2 := hle2 hs
        clear hbad hs
        go_wp2
        go_roundw
        case rel => exact ⟨pos + wd, rfl, hle2, hok⟩
        case measure => simp; omega
      · obtain rfl := hbad hs
        clear hok hle2 hs hbad
        go_wp2
        go_ret
        exact ⟨rfl, below_new _⟩
    · have hnx : ∀ ty, (Instr.next (.pointer (some ⟨w.heap.size, 0, none⟩)) true ty).run Try.prog (w.iter s pos) = _ := fun ty => run_next_end w s pos ty hp
      obtain rfl : pos = s.size := by omega
      have hn : nameB s = decide (1 ≤ s.size ∧ s.size ≤ 15) := by rw [nameB, decide_eq_true (fun i h => hall i h h), Bool.true_and]
      rw [hr] at hn
      clear hall hr
      go_wp2
      all_goals
        go_ret
        refine ⟨ret_bool ?_, below_new _⟩
        subst hn
        rw [Bool.eq_iff_iff]
        simp at *
        omega
end Go.Proofs.Ytepfabijmhhhcaa
