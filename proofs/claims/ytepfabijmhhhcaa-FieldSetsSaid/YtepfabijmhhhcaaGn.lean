/- Layer 6 of the heap, fields, fourteenth part: bytes that are fields, read; in plain lists. -/
import Derived.Test.YtepfabijmhhhcaaGm
set_option linter.unusedSimpArgs false
set_option linter.unusedVariables false
namespace Go.Proofs.Ytepfabijmhhhcaa
open Go.RowKit

/-- a field that bytes can hold -/
def wfF (f : Fd) : Prop := f.s.size < 256 ∧ 0 ≤ f.k ∧ f.k < 256 ∧ 0 ≤ f.l ∧ f.l < 256
/-- one field, and what is left -/
def stepF : List UInt8 → Option (Fd × List UInt8)
  | [] => none
  | n :: q => if n.toNat + 2 ≤ q.length then some (⟨strL (q.take n.toNat), (q.getD n.toNat 0).toNat, (q.getD (n.toNat + 1) 0).toNat⟩, q.drop (n.toNat + 2)) else none
/-- so many fields, and what is left -/
def rdF : List UInt8 → Nat → Option (List Fd × List UInt8)
  | r, 0 => some ([], r)
  | r, k + 1 => match stepF r with
    | none => none
    | some (f, r') => (rdF r' k).map fun x => (f :: x.1, x.2)
theorem u8_nat {n : Nat} (h : n < 256) : (UInt8.ofNat n).toNat = n := by simp; omega
theorem u8_of (x : UInt8) : UInt8.ofNat x.toNat = x := by simp
theorem step_row {f : Fd} (h : wfF f) (r : List UInt8) : stepF (rowF f ++ r) = some (f, r) := by
  obtain ⟨h1, h2, h3, h4, h5⟩ := h
  have e : rowF f ++ r = UInt8.ofNat f.s.size :: (bl f.s ++ ([UInt8.ofNat f.k.toNat, UInt8.ofNat f.l.toNat] ++ r)) := by simp [rowF]
  have hbl := bl_length f.s
  rw [e, stepF, u8_nat h1]
  rw [if_pos (by simp [hbl])]
  have t1 : (bl f.s ++ ([UInt8.ofNat f.k.toNat, UInt8.ofNat f.l.toNat] ++ r)).take f.s.size = bl f.s := by rw [← hbl]; exact List.take_left
  have t2 : (bl f.s ++ ([UInt8.ofNat f.k.toNat, UInt8.ofNat f.l.toNat] ++ r)).drop (f.s.size + 2) = r := by
    rw [List.drop_append, hbl, List.drop_of_length_le (by omega)]
    rw [show f.s.size + 2 - f.s.size = 2 by omega]
    rfl
  have t3 : (bl f.s ++ ([UInt8.ofNat f.k.toNat, UInt8.ofNat f.l.toNat] ++ r)).getD f.s.size 0 = UInt8.ofNat f.k.toNat := by
    rw [List.getD_eq_getElem?_getD, List.getElem?_append_right (by omega), hbl]; simp
  have t4 : (bl f.s ++ ([UInt8.ofNat f.k.toNat, UInt8.ofNat f.l.toNat] ++ r)).getD (f.s.size + 1) 0 = UInt8.ofNat f.l.toNat := by
    rw [List.getD_eq_getElem?_getD, List.getElem?_append_right (by omega), hbl]; simp
  rw [t1, t2, t3, t4, strL_bl, u8_nat (by omega), u8_nat (by omega)]
  have e1 : ((f.k.toNat : Nat) : Int) = f.k := by omega
  have e2 : ((f.l.toNat : Nat) : Int) = f.l := by omega
  rw [e1, e2]
theorem row_step {r r' : List UInt8} {f : Fd} (h : stepF r = some (f, r')) : r = rowF f ++ r' ∧ wfF f := by
  cases r with
  | nil => simp [stepF] at h
  | cons n q =>
    rw [stepF] at h
    split at h
    · rename_i hn
      cases h
      have hn1 := n.toNat_lt
      have hsz : (strL (q.take n.toNat)).size = n.toNat := by rw [strL_size, List.length_take]; omega
      have hb1 := (q.getD n.toNat 0).toNat_lt
      have hb2 := (q.getD (n.toNat + 1) 0).toNat_lt
      refine ⟨?_, ?_⟩
      · simp only [rowF]
        rw [hsz, bl_strL, u8_of, Int.toNat_natCast, Int.toNat_natCast, u8_of, u8_of]
        have e : q = q.take n.toNat ++ (q.getD n.toNat 0 :: q.getD (n.toNat + 1) 0 :: q.drop (n.toNat + 2)) := by
          conv => lhs; rw [← List.take_append_drop n.toNat q]
          congr 1
          have l1 : n.toNat < q.length := by omega
          have l2 : n.toNat + 1 < q.length := by omega
          rw [List.getD_eq_getElem?_getD, List.getD_eq_getElem?_getD, List.getElem?_eq_getElem l1, List.getElem?_eq_getElem l2, List.drop_eq_getElem_cons l1, List.drop_eq_getElem_cons l2]
          rfl
        conv => lhs; rw [e]
        simp
      · refine ⟨by rw [hsz]; omega, ?_, ?_, ?_, ?_⟩ <;> dsimp only <;> omega
    · cases h
theorem rdF_flat {l : List Fd} (h : ∀ f ∈ l, wfF f) (r : List UInt8) {k : Nat} (hk : k ≤ l.length) : rdF (l.flatMap rowF ++ r) k = some (l.take k, (l.drop k).flatMap rowF ++ r) := by
  induction k generalizing l with
  | zero => simp [rdF]
  | succ k ih =>
    cases l with
    | nil => simp at hk
    | cons f t =>
      rw [List.flatMap_cons, List.append_assoc, rdF, step_row (h f (List.mem_cons_self ..))]
      simp only []
      rw [ih (fun g hg => h g (List.mem_cons_of_mem _ hg)) (by simpa using hk)]
      simp
theorem flat_rdF {r r' : List UInt8} {k : Nat} {l : List Fd} (h : rdF r k = some (l, r')) : r = l.flatMap rowF ++ r' ∧ l.length = k ∧ ∀ f ∈ l, wfF f := by
  induction k generalizing r l with
  | zero =>
    simp [rdF] at h
    obtain ⟨rfl, rfl⟩ := h
    simp
  | succ k ih =>
    rw [rdF] at h
    split at h
    · cases h
    · rename_i f q hq
      obtain ⟨rfl, hf⟩ := row_step hq
      cases hr : rdF q k with
      | none => rw [hr] at h; simp at h
      | some x =>
        obtain ⟨t, q'⟩ := x
        rw [hr] at h
        simp at h
        obtain ⟨rfl, rfl⟩ := h
        obtain ⟨rfl, h2, h3⟩ := ih hr
        refine ⟨by simp, by simp [h2], fun g hg => ?_⟩
        rcases List.mem_cons.1 hg with rfl | hg
        · exact hf
        · exact h3 g hg
/-- the fields that bytes are, if they are any -/
def decL : List UInt8 → Option (List Fd)
  | [] => none
  | c :: q => match rdF q c.toNat with
    | some (l, []) => if rightF l = true then some l else none
    | _ => none
theorem rightF_wf {l : List Fd} (h : rightF l = true) : ∀ f ∈ l, wfF f := fun f hf => by
  obtain ⟨h1, h2⟩ := name_size (rightF_name h hf)
  obtain ⟨h3, h4, h5, h6⟩ := may_small ((rightF_may h).1 f hf)
  unfold wfF; omega
theorem decL_iff (b : List UInt8) (l : List Fd) : decL b = some l ↔ rightF l = true ∧ encFL l = b := by
  constructor
  · intro h
    cases b with
    | nil => cases h
    | cons c q =>
      rw [decL] at h
      split at h
      · rename_i l' hl
        split at h
        · rename_i hr
          cases h
          obtain ⟨h1, h2, h3⟩ := flat_rdF hl
          refine ⟨hr, ?_⟩
          rw [encFL, h2, u8_of, h1, List.append_nil]
        · cases h
      · cases h
  · rintro ⟨hr, rfl⟩
    have h16 := (rightF_may hr).2
    have := rdF_flat (rightF_wf hr) [] (Nat.le_refl l.length)
    rw [List.append_nil, List.take_length, List.drop_length] at this
    rw [encFL, decL, u8_nat (by omega), this]
    simp [hr]
theorem decL_enc {l : List Fd} (h : rightF l = true) : decL (encFL l) = some l := (decL_iff _ _).2 ⟨h, rfl⟩
/-- what was read so far is what is there, if anything is -/
theorem decL_part {c : UInt8} {l0 l : List Fd} {r : List UInt8} (hw : ∀ f ∈ l0, wfF f) (hl : l0.length ≤ c.toNat) (h : decL (c :: (l0.flatMap rowF ++ r)) = some l) : l.length = c.toNat ∧ l0 = l.take l0.length ∧ r = (l.drop l0.length).flatMap rowF ∧ rightF l = true := by
  obtain ⟨hr, he⟩ := (decL_iff _ _).1 h
  have h16 := (rightF_may hr).2
  rw [encFL] at he
  injection he with he1 he2
  have hc : l.length = c.toNat := by rw [← he1, u8_nat (by omega)]
  have e1 := rdF_flat hw r (Nat.le_refl l0.length)
  rw [List.take_length, List.drop_length] at e1
  have e2 := rdF_flat (rightF_wf hr) [] (k := l0.length) (by omega)
  rw [List.append_nil, he2, e1] at e2
  simp at e2
  exact ⟨hc, e2.1, e2.2, hr⟩
end Go.Proofs.Ytepfabijmhhhcaa
