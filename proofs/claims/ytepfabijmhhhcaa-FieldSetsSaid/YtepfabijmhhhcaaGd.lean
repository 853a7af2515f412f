/- Layer 6 of the heap, fields, fourth part: the reference's names. -/
import Derived.Test.YtepfabijmhhhcaaGc
import Derived.Lib.Hide
set_option linter.unusedSimpArgs false
set_option linter.unusedVariables false
namespace Go.Proofs.Ytepfabijmhhhcaa
open Go.RowKit

/-- the signs of names, as the reference lists them -/
def signL : List UInt8 := [97, 98, 99, 100, 101, 102, 103, 104, 105, 106, 107, 108, 109, 110, 111, 112, 113, 114, 115, 116, 117, 118, 119, 120, 121, 122, 48, 49, 50, 51, 52, 53, 54, 55, 56, 57, 95]
/-- the last place of a byte among the first k signs -/
def atN (c : UInt8) : Nat → Int
  | 0 => -1
  | k + 1 => if signL.getD k 0 = c then k else atN c k
theorem atN_bd (c : UInt8) (k : Nat) : -1 ≤ atN c k ∧ atN c k < k + 1 := by
  induction k with
  | zero => simp [atN]
  | succ k ih => rw [atN]; split <;> omega
theorem sign_all : ∀ n : Fin 256, ∀ b : Bool, (decide (atN (UInt8.ofNat n.val) 37 < 0) || (b && decide (25 < atN (UInt8.ofNat n.val) 37))) = !signB (if b then 0 else 1) n.val := by decide +kernel
theorem sign_at (c : UInt8) (i : Nat) : (decide (atN c 37 < 0) || (decide (i = 0) && decide (25 < atN c 37))) = !signB i c.toNat := by
  have h := sign_all ⟨c.toNat, c.toNat_lt⟩ (decide (i = 0))
  simp only [UInt8.ofNat_toNat] at h
  rw [h]
  by_cases hi : i = 0
  · subst hi; rfl
  · simp [signB, hi]
theorem signL_get (k : Nat) (h : k < (⟨signL.toArray⟩ : ByteArray).size) : (⟨signL.toArray⟩ : ByteArray)[k]'h = signL.getD k 0 := by
  have h' : k < signL.length := h
  rw [List.getD_eq_getElem?_getD, List.getElem?_eq_getElem h']
  rfl
set_option maxHeartbeats 1600000 in
theorem rName_calls (s : ByteArray) (hs : s.size ≤ 9223372036854775807) (w : World) : Calls Try.prog 24 #[.string s] w fun e w' => e = .returned (.bool (nameB s)) ∧ Below w.heap.size w w' := by
  obtain ⟨r, hr⟩ : ∃ r, nameB s = r := ⟨_, rfl⟩
  rw [hr]
  have HR := Lib.hid hr
  clear hr
  go_enter Try.func24, Try.ntmps24
  go_wp2
  generalize hsg : (⟨#[97, 98, 99, 100, 101, 102, 103, 104, 105, 106, 107, 108, 109, 110, 111, 112, 113, 114, 115, 116, 117, 118, 119, 120, 121, 122, 48, 49, 50, 51, 52, 53, 54, 55, 56, 57, 95]⟩ : ByteArray) = sg
  have hz : sg.size = 37 := by subst hsg; rfl
  have HG : Hid (∀ k, ∀ h : k < sg.size, sg[k]'h = signL.getD k 0) := Lib.hid (by subst hsg; exact fun k h => signL_get k h)
  clear hsg
  go_loopw [4, 5, 6] (fun i _ _ wr => ∃ k : Nat, k ≤ s.size ∧ i = .int .i64 k ∧ Below w.heap.size w wr ∧ Hid (∀ j, ∀ h : j < s.size, j < k → signB j (s[j]'h).toNat = true)) (fun i _ _ _ => s.size - (intOf i).toNat)
  case atStart => exact ⟨0, by omega, rfl, Below.refl _ _, Lib.hid fun j h h0 => by omega⟩
  case round =>
    obtain ⟨k, hk, rfl, HB, hall⟩ := hrel
    by_cases hlt : k < s.size
    · have hsign := sign_at (s[k]'hlt) k
      obtain ⟨c, hc⟩ : ∃ c, s[k]'hlt = c := ⟨_, rfl⟩
      rw [hc] at hsign
      have HC := Lib.hid hc
      clear hc
      have HS := Lib.hid hsign
      clear hsign
      go_wp2
      obtain ⟨wo, rfl⟩ : ∃ wo : World, wo = wr := ⟨_, rfl⟩
      go_loopw [5, 6] (fun q j wr => ∃ m : Nat, m ≤ 37 ∧ j = .int .i64 m ∧ q = .int .i64 (atN c m) ∧ Below w.heap.size w wr) (fun _ j _ => 37 - (intOf j).toNat)
      case atStart => exact ⟨0, by omega, rfl, rfl, HB⟩
      case round =>
        obtain ⟨m, hm, rfl, rfl, HB2⟩ := hrel
        by_cases hlm : m < 37
        · have hmz : m < sg.size := by omega
          go_wp2
          refine RW.start (fun w' => Below w.heap.size w w') (by kernel_rfl) (by kernel_rfl) HB2.drew ?_
          clear HB2
          repeat (first
            | (refine' RW.val (by rfl) ?_ ?_; rotate_left; (focus (intro w' hS; have HB2 := hS; clear hS; go_simp; rfl)); simp only [Act.put, List.setIfInBounds_toArray, List.set_cons_zero, List.set_cons_succ])
            | (refine RW.off (by rfl) ?_; simp only [Act.put, List.setIfInBounds_toArray, List.set_cons_zero, List.set_cons_succ]))
          refine RW.done (fun w' hS => ?_)
          have HB2 := hS; clear hS
          have hgm : sg[m]'hmz = signL.getD m 0 := HG.out m hmz
          by_cases he : signL.getD m 0 = c
          · have ht : (((sg[m]'hmz).toNat : Int) == ((s[k]'hlt).toNat : Int)) = true := by rw [hgm, HC.out, he]; simp
            clear hgm
            go_wp2
            go_roundw
            case rel => exact ⟨m + 1, by omega, by go_num, by rw [atN, if_pos he], HB2⟩
            case measure => simp [intOf]; omega
          · have ht : (((sg[m]'hmz).toNat : Int) == ((s[k]'hlt).toNat : Int)) = false := by
              rw [hgm, HC.out, beq_eq_false_iff_ne]
              intro h
              apply he
              have := Int.ofNat.inj h
              exact UInt8.toNat_inj.1 this
            clear hgm
            go_wp2
            go_roundw
            case rel => exact ⟨m + 1, by omega, by go_num, by rw [atN, if_neg he], HB2⟩
            case measure => simp [intOf]; omega
        · obtain rfl : m = 37 := by omega
          have hall2 : signB k c.toNat = true → Hid (∀ j, ∀ h : j < s.size, j < k + 1 → signB j (s[j]'h).toNat = true) := fun h => Lib.hid fun j hj hjk => by
            rcases (by omega : j < k ∨ j = k) with h2 | rfl
            · exact hall.out j hj h2
            · rw [HC.out]; exact h
          have hbad : signB k c.toNat = false → r = false := fun h => HR.out.symm.trans (nameB_bad hlt (by rw [HC.out]; exact h))
          obtain ⟨A, hA⟩ : ∃ A, decide (atN c 37 < 0) = A := ⟨_, rfl⟩
          obtain ⟨D, hD⟩ : ∃ D, decide (25 < atN c 37) = D := ⟨_, rfl⟩
          obtain ⟨C, hC⟩ : ∃ C, ((k : Int) == 0) = C := ⟨_, rfl⟩
          have hC2 : decide (k = 0) = C := by rw [← hC, Bool.eq_iff_iff]; simp
          have hs2 := HS.out
          rw [hA, hD, hC2] at hs2
          clear hC2
          obtain ⟨q, hq⟩ : ∃ q, atN c 37 = q := ⟨_, rfl⟩
          rw [hq] at hA hD ⊢
          clear HC HG hall HS hq
          have hsv : signB k c.toNat = !(A || (C && D)) := by rw [hs2, Bool.not_not]
          clear hs2
          cases A <;> cases C <;> cases D <;> simp only [Bool.false_or, Bool.true_or, Bool.false_and, Bool.true_and, Bool.and_false, Bool.or_false, Bool.and_true, Bool.not_true, Bool.not_false] at hsv
          all_goals first
            | (have hall3 := hall2 hsv
               clear hall2 hbad hsv
               go_wp2
               go_roundw
               case rel => exact ⟨k + 1, by omega, by go_num, HB2, hall3⟩
               case measure => simp [intOf]; omega)
            | (obtain rfl := hbad hsv
               clear hall2 hbad hsv HR
               go_wp2
               go_ret
               exact ⟨rfl, HB2⟩)
    · obtain rfl : k = s.size := by omega
      have hn : nameB s = decide (1 ≤ s.size ∧ s.size ≤ 15) := by rw [nameB, decide_eq_true (fun i h => hall.out i h h), Bool.true_and]
      rw [HR.out] at hn
      have HN := Lib.hid hn
      clear hn hall HG
      go_wp2
      all_goals
        go_ret
        refine ⟨ret_bool ?_, HB⟩
        have hn := HN.out
        clear HN
        subst hn
        rw [Bool.eq_iff_iff]
        simp only [decide_eq_true_eq, Bool.false_eq_true]
        (first | (constructor <;> intro h <;> omega) | (exact ⟨fun h => h.elim, fun h => by omega⟩))
end Go.Proofs.Ytepfabijmhhhcaa
