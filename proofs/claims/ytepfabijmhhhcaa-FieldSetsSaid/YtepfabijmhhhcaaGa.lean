/- Layer 6 of the heap, fields, first part: rows of fields in memory; multiples; a field by its name. -/
import Derived.Test.YtepfabijmhhhcaaKd
set_option linter.unusedSimpArgs false
set_option linter.unusedVariables false
namespace Go.Proofs.Ytepfabijmhhhcaa
open Go.RowKit

/-- a field: its name, its kind, its length -/
structure Fd where
  s : ByteArray
  k : Int
  l : Int
def Fd.v (f : Fd) : Value := .agg #[.string f.s, .int .i64 f.k, .int .i64 f.l]
def cellsF (fs : List Fd) : List Value := fs.flatMap fun f => [.string f.s, .int .i64 f.k, .int .i64 f.l]
theorem cellsF_length (fs : List Fd) : (cellsF fs).length = 3 * fs.length := by
  induction fs with
  | nil => rfl
  | cons f r ih => simp only [cellsF, List.flatMap_cons, List.length_append, List.length_cons, List.length_nil] at *; omega
theorem cellsF_get (fs : List Fd) (i : Nat) (f : Fd) (h : fs[i]? = some f) : (cellsF fs)[i * 3]? = some (.string f.s) ∧ (cellsF fs)[i * 3 + 1]? = some (.int .i64 f.k) ∧ (cellsF fs)[i * 3 + 2]? = some (.int .i64 f.l) := by
  induction fs generalizing i with
  | nil => simp at h
  | cons g r ih =>
    cases i with
    | zero =>
      simp at h
      subst h
      exact ⟨rfl, rfl, rfl⟩
    | succ i =>
      have := ih i (by simpa using h)
      rw [cellsF, List.flatMap_cons]
      refine ⟨?_, ?_, ?_⟩
      · rw [show (i + 1) * 3 = i * 3 + 3 by omega, List.getElem?_append_right (by simp)]; simpa [cellsF] using this.1
      · rw [show (i + 1) * 3 + 1 = i * 3 + 1 + 3 by omega, List.getElem?_append_right (by simp)]; simpa [cellsF] using this.2.1
      · rw [show (i + 1) * 3 + 2 = i * 3 + 2 + 3 by omega, List.getElem?_append_right (by simp)]; simpa [cellsF] using this.2.2
/-- the first multiple of n from a place on -/
def upN (at_ n : Nat) : Nat := (at_ + n - 1) / n * n
theorem up_calls (at_ n : Nat) (hn : 0 < n) (h : at_ + n ≤ 4611686018427387904) (w : World) : Calls Try.prog 38 #[.int .i64 at_, .int .i64 n] w fun e w' => e = .returned (.int .i64 (upN at_ n)) ∧ w = w' := by
  have hz : ((n : Int) == 0) = false := by simp; omega
  have hq : (at_ + n - 1) / n * n ≤ at_ + n - 1 := Nat.div_mul_le_self _ _
  have hd : (at_ + n - 1) / n ≤ at_ + n - 1 := Nat.div_le_self _ _
  go_enter Try.func38, Try.ntmps38
  go_wp2
  go_ret
  refine ⟨ret_int ?_, rfl⟩
  have e : ((at_ : Int) + n - 1) / n * n = ((upN at_ n : Nat) : Int) := by
    unfold upN
    rw [Int.natCast_mul, Int.natCast_ediv, show ((at_ + n - 1 : Nat) : Int) = at_ + n - 1 by omega]
  have hb : upN at_ n ≤ at_ + n - 1 := hq
  show wrap64 _ = _
  rw [e]
  generalize upN at_ n = u at *
  clear e hd hz
  first | (unfold wrap64; omega) | (simp [wrap64]; omega)
/-- the number of the first field of a name -/
def findZ : List Fd → ByteArray → Int
  | [], _ => -1
  | f :: r, nm => if f.s = nm then 0 else if findZ r nm < 0 then -1 else findZ r nm + 1
theorem findZ_ge (fs : List Fd) (nm : ByteArray) : -1 ≤ findZ fs nm ∧ findZ fs nm < fs.length := by
  induction fs with
  | nil => simp [findZ]
  | cons f r ih => simp only [findZ, List.length_cons]; split <;> (try split) <;> omega
theorem findZ_at (fs : List Fd) (nm : ByteArray) (k : Nat) (f : Fd) (hk : fs[k]? = some f) (h : f.s = nm) (hb : ∀ (j : Nat) (g : Fd), j < k → fs[j]? = some g → g.s ≠ nm) : findZ fs nm = k := by
  induction fs generalizing k with
  | nil => simp at hk
  | cons g r ih =>
    cases k with
    | zero =>
      simp at hk
      subst hk
      simp [findZ, h]
    | succ k =>
      have h0 := hb 0 g (by omega) rfl
      have := ih k (by simpa using hk) (fun j g' hj hg => hb (j + 1) g' (by omega) (by simpa using hg))
      rw [findZ, if_neg h0, this, if_neg (by omega)]; omega
theorem findZ_none (fs : List Fd) (nm : ByteArray) (hb : ∀ (j : Nat) (g : Fd), fs[j]? = some g → g.s ≠ nm) : findZ fs nm = -1 := by
  induction fs with
  | nil => rfl
  | cons g r ih =>
    have h0 := hb 0 g rfl
    rw [findZ, if_neg h0, ih (fun j g' hg => hb (j + 1) g' (by simpa using hg)), if_pos (by omega)]
theorem Rd.at {w : World} {A : Option Addr} {cs : List Value} (h : Rd w A cs) {j : Nat} {u : Value} (hj : cs[j]? = some u) : ∃ ad, A = some ad ∧ w.cell? (ad.add j) = some u := by
  obtain ⟨ad, e, hc⟩ := h (by intro hn; subst hn; simp at hj)
  exact ⟨ad, e, hc j u hj⟩
set_option maxHeartbeats 800000 in
theorem rFind_calls (A : Option Addr) (c : Nat) (fs : List Fd) (nm : ByteArray) (w : World) (hA : Rd w A (cellsF fs)) (hl : fs.length ≤ 9223372036854775807) :
    Calls Try.prog 22 #[.slice A fs.length c, .string nm] w fun e w' => e = .returned (.int .i64 (findZ fs nm)) ∧ w = w' := by
  obtain ⟨r, hr⟩ : ∃ r, findZ fs nm = r := ⟨_, rfl⟩
  rw [hr]
  go_enter Try.func22, Try.ntmps22
  go_wp2
  go_loop [5] (fun i => ∃ k : Nat, k ≤ fs.length ∧ i = .int .i64 k ∧ ∀ (j : Nat) (g : Fd), j < k → fs[j]? = some g → g.s ≠ nm) (fun i => fs.length - (intOf i).toNat)
  case atStart => exact ⟨0, by omega, rfl, fun j g h => by omega⟩
  case round =>
    obtain ⟨k, hk, rfl, hb⟩ := hrel
    by_cases hlt : k < fs.length
    · obtain ⟨f, hf⟩ : ∃ f, fs[k]? = some f := ⟨_, List.getElem?_eq_getElem hlt⟩
      obtain ⟨ad, rfl, hcell⟩ := hA.at (cellsF_get fs k f hf).1
      have hz := findZ_at fs nm k f hf
      by_cases he : f.s = nm
      · obtain rfl : (k : Int) = r := (hz he hb).symm.trans hr
        subst he
        have ht : (f.s.toList == f.s.toList) = true := by simp
        clear hb hz hr
        go_wp2
        go_ret
        exact ⟨rfl, rfl⟩
      · have ht : (f.s.toList == nm.toList) = false := by
          simp only [ByteArray.toList_eq, beq_eq_false_iff_ne, ne_eq]
          intro h
          apply he
          have : f.s.data = nm.data := Array.toList_inj.1 h
          cases hfs : f.s; cases nm; simp_all
        have hb' : ∀ (j : Nat) (g : Fd), j < k + 1 → fs[j]? = some g → g.s ≠ nm := fun j g hj hg => by
          rcases (by omega : j < k ∨ j = k) with h | rfl
          · exact hb j g h hg
          · rw [hf] at hg; cases hg; exact he
        clear hb hz hr
        go_wp2
        go_round
        case rel => exact ⟨k + 1, by omega, by go_num, hb'⟩
        case measure => simp [intOf]; omega
    · obtain rfl : k = fs.length := by omega
      have : findZ fs nm = -1 := findZ_none fs nm fun j g hg => hb j g (by have := List.getElem?_eq_some_iff.1 hg; exact this.1) hg
      obtain rfl : -1 = r := this.symm.trans hr
      clear hb
      go_wp2
      go_ret
      exact ⟨rfl, rfl⟩
end Go.Proofs.Ytepfabijmhhhcaa
