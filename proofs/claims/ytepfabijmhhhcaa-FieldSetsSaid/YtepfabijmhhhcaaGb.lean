/- Layer 6 of the heap, fields, second part: a field by its name. -/
import Derived.Test.YtepfabijmhhhcaaGa
set_option linter.unusedSimpArgs false
set_option linter.unusedVariables false
namespace Go.Proofs.Ytepfabijmhhhcaa
open Go.RowKit

theorem add_part (a : Addr) (m n : Nat) : a.add (m + (n + 1)) = ⟨(a.add m).block, (a.add m).off + (n + 1), none⟩ := by
  rw [← Addr.add_add, Addr.add_succ']
theorem name_beq (a b : ByteArray) : (a.toList == b.toList) = decide (a = b) := by
  rw [Bool.eq_iff_iff]
  simp only [ByteArray.toList_eq, beq_iff_eq, decide_eq_true_eq]
  constructor
  · intro h
    have : a.data = b.data := Array.toList_inj.1 h
    cases a; cases b; simp_all
  · intro h; rw [h]
theorem Find1_calls (b : Nat) (s : ByteArray) (k l : Int) (nm : ByteArray) (w : World) (hc : w.cell? ⟨b, 0, none⟩ = some (.string nm)) :
    Calls Try.prog 41 #[.agg #[.string s, .int .i64 k, .int .i64 l], .pointer (some ⟨b, 0, none⟩)] w fun e w' => e = .returned (.bool (s.toList == nm.toList)) ∧ Below w.heap.size w w' := by
  have hb : b < w.heap.size := blk_lt_of hc
  go_enter Try.func41, Try.ntmps41
  go_wp2
  go_ret
  exact ⟨rfl, below_new _⟩
set_option maxHeartbeats 800000 in
theorem IndexFunc_calls (A : Option Addr) (c : Nat) (fs : List Fd) (b : Nat) (nm : ByteArray) (w : World) (hA : Rd w A (cellsF fs)) (hl : fs.length ≤ 9223372036854775807) (hc : w.cell? ⟨b, 0, none⟩ = some (.string nm)) :
    Calls Try.prog 40 #[.slice A fs.length c, .func (.func 41) #[] #[.pointer (some ⟨b, 0, none⟩)]] w fun e w' => e = .returned (.int .i64 (findZ fs nm)) ∧ Below w.heap.size w w' := by
  obtain ⟨r, hr⟩ : ∃ r, findZ fs nm = r := ⟨_, rfl⟩
  rw [hr]
  go_enter Try.func40, Try.ntmps40
  go_wp2
  go_loopw [5, 8] (fun x i wr => ∃ k : Nat, k ≤ fs.length ∧ i = .int .i64 k ∧ Below w.heap.size w wr ∧ ∀ (j : Nat) (g : Fd), j < k → fs[j]? = some g → g.s ≠ nm) (fun _ i _ => fs.length - (intOf i).toNat)
  case atStart => exact ⟨0, by omega, rfl, Below.refl _ _, fun j g h => by omega⟩
  case round =>
    obtain ⟨k, hk, rfl, HB, hb⟩ := hrel
    have hAr := hA.below HB
    have hcr := cell_below (B := 0) HB hc
    by_cases hlt : k < fs.length
    · obtain ⟨f, hf⟩ : ∃ f, fs[k]? = some f := ⟨_, List.getElem?_eq_getElem hlt⟩
      obtain ⟨g0, g1, g2⟩ := cellsF_get fs k f hf
      obtain ⟨ad, rfl, hcell⟩ := hAr.at g0
      obtain ⟨_, e1, hcell1⟩ := hAr.at g1
      obtain ⟨_, e2, hcell2⟩ := hAr.at g2
      cases e1; cases e2
      rw [add_part _ _ 0] at hcell1
      rw [add_part _ _ 1] at hcell2
      have hz := findZ_at fs nm k f hf
      by_cases he : f.s = nm
      · obtain rfl : (k : Int) = r := (hz he hb).symm.trans hr
        clear hb hz hr
        go_wp2_with (go_at_call 41; refine (Find1_calls b _ _ _ nm _ hcr).mono ?_; rintro e w1 ⟨rfl, hb1⟩; rw [name_beq, decide_eq_true rfl])
        go_ret
        exact ⟨rfl, below_seq HB hb1⟩
      · have hb' : ∀ (j : Nat) (g : Fd), j < k + 1 → fs[j]? = some g → g.s ≠ nm := fun j g hj hg => by
          rcases (by omega : j < k ∨ j = k) with h | rfl
          · exact hb j g h hg
          · rw [hf] at hg; cases hg; exact he
        have ht : (f.s.toList == nm.toList) = false := by rw [name_beq]; exact decide_eq_false he
        clear hb hz hr
        go_wp2_with (go_at_call 41; refine (Find1_calls b _ _ _ nm _ hcr).mono ?_; rintro e w1 ⟨rfl, hb1⟩; rw [ht])
        go_roundw
        case rel => exact ⟨k + 1, by omega, by go_num, below_seq HB hb1, hb'⟩
        case measure => simp [intOf]; omega
    · obtain rfl : k = fs.length := by omega
      have : findZ fs nm = -1 := findZ_none fs nm fun j g hg => hb j g (by have := List.getElem?_eq_some_iff.1 hg; exact this.1) hg
      obtain rfl : -1 = r := this.symm.trans hr
      clear hb
      go_wp2
      go_ret
      exact ⟨rfl, HB⟩
theorem Find_calls (A : Option Addr) (c : Nat) (fs : List Fd) (nm : ByteArray) (w : World) (hA : Rd w A (cellsF fs)) (hl : fs.length ≤ 9223372036854775807) :
    Calls Try.prog 21 #[.slice A fs.length c, .string nm] w fun e w' => e = .returned (.int .i64 (findZ fs nm)) ∧ Below w.heap.size w w' := by
  have hmf : ∀ (fn : Fn) (first cap : Array Value) (w : World), (Instr.makeFunc fn first cap).run Try.prog w = .ok (.func fn first cap) w := fun _ _ _ _ => rfl
  have HB : Below w.heap.size w (w.alloc (.cells #[.string nm] 9)) := below_new _
  go_enter Try.func21, Try.ntmps21
  go_wp2_with (go_at_call 40; refine (IndexFunc_calls A c fs w.heap.size nm _ (hA.below HB) hl (cell_new _ _ _ _ _ rfl)).mono ?_; rintro e w1 ⟨rfl, hb⟩)
  go_ret
  exact ⟨rfl, below_seq HB hb⟩
end Go.Proofs.Ytepfabijmhhhcaa
