/- Layer 6 of the heap, fields, tenth part: new objects; where a field stands. -/
import Derived.Test.YtepfabijmhhhcaaGi
set_option linter.unusedSimpArgs false
set_option linter.unusedVariables false
namespace Go.Proofs.Ytepfabijmhhhcaa
open Go.RowKit

theorem sizeF_le (fs : List Fd) : sizeF fs ≤ 4096 := by
  unfold sizeF
  split
  · rename_i h
    obtain ⟨hm, hl⟩ := rightF_may h
    have := endF_le (nx := 0) hm
    have := upN_le (endF 0 fs) 8 (by omega)
    omega
  · omega
theorem New_calls (A : Option Addr) (c : Nat) (fs : List Fd) (w : World) (hA : Rd w A (cellsF fs)) (hl : fs.length ≤ 9223372036854775807) :
    Calls Try.prog 20 #[.slice A fs.length c] w fun e w' => ∃ v, e = .returned v ∧ OutB w' v (List.replicate (sizeF fs) 0) ∧ Below w.heap.size w w' := by
  have hz := sizeF_le fs
  have hmk := make_bytes (sizeF fs) (by omega)
  go_enter Try.func20, Try.ntmps20
  go_wp2_with (go_at_call 13; refine (Layout_calls A c fs _ hA hl).mono ?_; rintro e w1 ⟨v, rfl, ho, hb1⟩)
  go_ret
  exact ⟨_, rfl, ⟨some ⟨w1.heap.size, 0, none⟩, sizeF fs, by simp, by simp, rd_new _ _ _⟩, hb1.alloc hb1.size _⟩
def Fd.z : Fd := ⟨⟨#[]⟩, 0, 0⟩
theorem Rd.int {w : World} {A : Option Addr} {l : List Nat} (h : Rd w A (intsV l)) {k n : Nat} (hk : l[k]? = some n) : ∃ ad, A = some ad ∧ w.cell? (ad.add k) = some (.int .i64 n) := by
  have : (intsV l)[k]? = some (.int .i64 n) := by simp [intsV, hk]
  exact h.at this
theorem intsV_length (l : List Nat) : (intsV l).length = l.length := by simp [intsV]
theorem Layout_is (A : Option Addr) (c : Nat) (fs : List Fd) (z : Nat) (hz : sizeF fs = z) (w : World) (hA : Rd w A (cellsF fs)) (hl : fs.length ≤ 9223372036854775807) :
    Calls Try.prog 13 #[.slice A fs.length c] w fun e w' => ∃ B m c', e = .returned (.tuple #[.slice B m c', .int .i64 (z : Nat)]) ∧ m = (layL fs).length ∧ Rd w' B (intsV (layL fs)) ∧ Below w.heap.size w w' := by
  subst hz
  refine (Layout_calls A c fs w hA hl).mono ?_
  rintro e w' ⟨v, rfl, ho, hb⟩
  obtain ⟨B, c', rfl, _, _, hr⟩ := own_rd ho
  exact ⟨B, _, c', rfl, rfl, hr, hb⟩
/-- a block of cells that was laid -/
def OBox (w : World) (b : Nat) (cs : List Value) (T : TypeId) : Prop := w.heap[b]? = some (.cells cs.toArray T (0, 0))
theorem OBox.new (w : World) (cs : List Value) (T : TypeId) : OBox (w.alloc (.cells cs.toArray T)) w.heap.size cs T := World.alloc_heap_new w _
theorem OBox.lt {w : World} {b : Nat} {cs : List Value} {T : TypeId} (h : OBox w b cs T) : b < w.heap.size := (Array.getElem?_eq_some_iff.1 h).1
theorem OBox.below {w w1 : World} {b : Nat} {cs : List Value} {T : TypeId} (h : OBox w b cs T) (hb : Below w.heap.size w w1) : OBox w1 b cs T := (hb.block b h.lt).trans h
theorem OBox.cell {w : World} {b : Nat} {cs : List Value} {T : TypeId} (h : OBox w b cs T) {j : Nat} {v : Value} (hj : cs[j]? = some v) : w.cell? ⟨b, j, none⟩ = some v := by
  simp [World.cell?, show w.heap[b]? = _ from h, hj]
theorem OBox.frz {w : World} {b : Nat} {cs : List Value} {T : TypeId} (h : OBox w b cs T) (j : Nat) : w.frozen? ⟨b, j, none⟩ = false := by
  simp [World.frozen?, show w.heap[b]? = _ from h]
theorem OBox.f3 {w : World} {b : Nat} {x y z : Value} {T : TypeId} (h : OBox w b [x, y, z] T) : w.cell? ⟨b, 0, none⟩ = some x ∧ w.cell? ⟨b, 1, none⟩ = some y ∧ w.cell? ⟨b, 2, none⟩ = some z ∧ w.frozen? ⟨b, 0, none⟩ = false ∧ w.frozen? ⟨b, 1, none⟩ = false ∧ w.frozen? ⟨b, 2, none⟩ = false :=
  ⟨h.cell rfl, h.cell rfl, h.cell rfl, h.frz 0, h.frz 1, h.frz 2⟩
theorem OBox.f1 {w : World} {b : Nat} {x : Value} {T : TypeId} (h : OBox w b [x] T) : w.cell? ⟨b, 0, none⟩ = some x ∧ w.frozen? ⟨b, 0, none⟩ = false := ⟨h.cell rfl, h.frz 0⟩
set_option maxHeartbeats 1600000 in
theorem place_form (Ab : Option Addr) (nb cb : Nat) (A : Option Addr) (c : Nat) (fs : List Fd) (nm : ByteArray) (w : World) (hA : Rd w A (cellsF fs)) (hl : fs.length ≤ 9223372036854775807) (h : rightF fs = false ∨ ¬ nb = sizeF fs) :
    Calls Try.prog 42 #[.slice Ab nb cb, .slice A fs.length c, .string nm] w fun e w' => e = .returned (.tuple #[.int .i64 0, .agg #[.string ⟨#[]⟩, .int .i64 0, .int .i64 0], .int .i64 60]) ∧ Below w.heap.size w w' := by
  obtain ⟨z, hz⟩ : ∃ z, sizeF fs = z := ⟨_, rfl⟩
  obtain ⟨r, hr⟩ : ∃ r, rightF fs = r := ⟨_, rfl⟩
  rw [hz, hr] at h
  have HZ := Lib.hid hz
  have HR := Lib.hid hr
  clear hz hr
  cases r
  · clear h
    go_enter Try.func42, Try.ntmps42
    go_wp2_with (first
      | (go_at_call 13; refine (Layout_is A c fs z HZ.out _ (hA.below (below_new _)) hl).mono ?_; rintro e w1 ⟨B, m, c', rfl, hm, hr, hb1⟩; have hA1 := (hA.below (below_new _)).below hb1)
      | (go_at_call 15; refine (FRight_is A c fs _ HR.out _ hA1 hl).mono ?_; rintro e w2 ⟨rfl, hb2⟩; obtain ⟨k0, k1, k2, f0, f1, f2⟩ := (((OBox.new w [.string ⟨#[]⟩, .int .i64 0, .int .i64 0] 40).below hb1).below hb2).f3; have HB := below_seq (below_seq (below_new _) hb1) hb2))
    refine bodyPost_ret (v := .tuple #[.int .i64 0, .agg #[.string ⟨#[]⟩, .int .i64 0, .int .i64 0], .int .i64 60]) (by simp [results, Try.results42, go_sem, *]; done) rfl ⟨rfl, ?_⟩
    (repeat (first | exact HB | refine Below.setCell ?_ (by dsimp only; omega) _ | refine Below.alloc ?_ (by have hs_ := HB.size; first | (simp; done) | (simp; omega) | omega) _ | apply Below.drew))
  · have hne : ((nb : Int) != (z : Int)) = true := by simp at h; simp; omega
    clear h
    go_enter Try.func42, Try.ntmps42
    go_wp2_with (first
      | (go_at_call 13; refine (Layout_is A c fs z HZ.out _ (hA.below (below_new _)) hl).mono ?_; rintro e w1 ⟨B, m, c', rfl, hm, hr, hb1⟩; have hA1 := (hA.below (below_new _)).below hb1)
      | (go_at_call 15; refine (FRight_is A c fs _ HR.out _ hA1 hl).mono ?_; rintro e w2 ⟨rfl, hb2⟩; obtain ⟨k0, k1, k2, f0, f1, f2⟩ := (((OBox.new w [.string ⟨#[]⟩, .int .i64 0, .int .i64 0] 40).below hb1).below hb2).f3; have HB := below_seq (below_seq (below_new _) hb1) hb2))
    refine bodyPost_ret (v := .tuple #[.int .i64 0, .agg #[.string ⟨#[]⟩, .int .i64 0, .int .i64 0], .int .i64 60]) (by simp [results, Try.results42, go_sem, *]; done) rfl ⟨rfl, ?_⟩
    (repeat (first | exact HB | refine Below.setCell ?_ (by dsimp only; omega) _ | refine Below.alloc ?_ (by have hs_ := HB.size; first | (simp; done) | (simp; omega) | omega) _ | apply Below.drew))
set_option maxHeartbeats 1600000 in
theorem place_none (Ab : Option Addr) (nb cb : Nat) (A : Option Addr) (c : Nat) (fs : List Fd) (nm : ByteArray) (w : World) (hA : Rd w A (cellsF fs)) (hl : fs.length ≤ 9223372036854775807) (h : rightF fs = true) (hn : nb = sizeF fs) (hk : findZ fs nm < 0) :
    Calls Try.prog 42 #[.slice Ab nb cb, .slice A fs.length c, .string nm] w fun e w' => e = .returned (.tuple #[.int .i64 0, .agg #[.string ⟨#[]⟩, .int .i64 0, .int .i64 0], .int .i64 61]) ∧ Below w.heap.size w w' := by
  have HZ := Lib.hid hn.symm
  have HR := Lib.hid h
  obtain ⟨k, hkz⟩ : ∃ k, findZ fs nm = k := ⟨_, rfl⟩
  rw [hkz] at hk
  have HK := Lib.hid hkz
  have hd : decide (k < 0) = true := by simpa using hk
  clear h hn hkz
  go_enter Try.func42, Try.ntmps42
  go_wp2_with (first
    | (go_at_call 13; refine (Layout_is A c fs nb HZ.out _ (hA.below (below_new _)) hl).mono ?_; rintro e w1 ⟨B, m, c', rfl, hm, hr, hb1⟩; have hA1 := (hA.below (below_new _)).below hb1)
    | (go_at_call 15; refine (FRight_is A c fs _ HR.out _ hA1 hl).mono ?_; rintro e w2 ⟨rfl, hb2⟩; have hA2 := hA1.below hb2)
    | (go_at_call 21; refine (Find_is A c fs _ _ HK.out _ hA2 hl).mono ?_; rintro e w3 ⟨rfl, hb3⟩; obtain ⟨k0, k1, k2, f0, f1, f2⟩ := ((((OBox.new w [.string ⟨#[]⟩, .int .i64 0, .int .i64 0] 40).below hb1).below hb2).below hb3).f3; have HB := below_seq (below_seq (below_seq (below_new _) hb1) hb2) hb3))
  refine bodyPost_ret (v := .tuple #[.int .i64 0, .agg #[.string ⟨#[]⟩, .int .i64 0, .int .i64 0], .int .i64 61]) (by simp [results, Try.results42, go_sem, *]; done) rfl ⟨rfl, ?_⟩
  (repeat (first | exact HB | refine Below.setCell ?_ (by dsimp only; omega) _ | refine Below.alloc ?_ (by have hs_ := HB.size; first | (simp; done) | (simp; omega) | omega) _ | apply Below.drew))
set_option maxHeartbeats 1600000 in
theorem place_ok (Ab : Option Addr) (nb cb : Nat) (A : Option Addr) (c : Nat) (fs : List Fd) (nm : ByteArray) (w : World) (hA : Rd w A (cellsF fs)) (hl : fs.length ≤ 9223372036854775807) (h : rightF fs = true) (hn : nb = sizeF fs) (k : Nat) (f : Fd) (at_ : Nat) (hk : findZ fs nm = k) (hf : fs[k]? = some f) (hat : (layL fs)[k]? = some at_) :
    Calls Try.prog 42 #[.slice Ab nb cb, .slice A fs.length c, .string nm] w fun e w' => e = .returned (.tuple #[.int .i64 at_, .agg #[.string f.s, .int .i64 f.k, .int .i64 f.l], .int .i64 0]) ∧ Below w.heap.size w w' := by
  have HZ := Lib.hid hn.symm
  have HR := Lib.hid h
  have HK := Lib.hid hk
  have HF := Lib.hid hf
  have HT := Lib.hid hat
  have hk1 := (List.getElem?_eq_some_iff.1 hf).1
  have hk2 := (List.getElem?_eq_some_iff.1 hat).1
  clear h hn hk hf hat
  go_enter Try.func42, Try.ntmps42
  go_wp2_with (first
    | (go_at_call 13; refine (Layout_is A c fs nb HZ.out _ (hA.below (below_new _)) hl).mono ?_; rintro e w1 ⟨B, m, c', rfl, hm, hr, hb1⟩; have hA1 := (hA.below (below_new _)).below hb1)
    | (go_at_call 15; refine (FRight_is A c fs _ HR.out _ hA1 hl).mono ?_; rintro e w2 ⟨rfl, hb2⟩; have hA2 := hA1.below hb2)
    | (go_at_call 21; refine (Find_is A c fs _ _ HK.out _ hA2 hl).mono ?_; rintro e w3 ⟨rfl, hb3⟩; obtain ⟨k0, k1, k2, f0, f1, f2⟩ := ((((OBox.new w [.string ⟨#[]⟩, .int .i64 0, .int .i64 0] 40).below hb1).below hb2).below hb3).f3; have HB := below_seq (below_seq (below_seq (below_new _) hb1) hb2) hb3; obtain ⟨ad, rfl, g0, g1, g2⟩ := (hA2.below hb3).fld HF.out; obtain ⟨bd, rfl, g3⟩ := ((hr.below hb2).below hb3).int HT.out))
  have hlt1 : (k : Int) < ((layL fs).length : Int) := by omega
  have hlt2 : (k : Int) < (fs.length : Int) := by omega
  clear HZ HR HK HF HT
  go_region
  all_goals go_wp2
  all_goals refine bodyPost_ret (v := .tuple #[.int .i64 at_, .agg #[.string f.s, .int .i64 f.k, .int .i64 f.l], .int .i64 0]) (by simp [results, Try.results42, go_sem, *]; done) rfl ⟨rfl, ?_⟩
  all_goals (repeat (first | exact HB | refine Below.setCell ?_ (by dsimp only; omega) _ | refine Below.alloc ?_ (by have hs_ := HB.size; first | (simp; done) | (simp; omega) | omega) _ | apply Below.drew))
end Go.Proofs.Ytepfabijmhhhcaa
