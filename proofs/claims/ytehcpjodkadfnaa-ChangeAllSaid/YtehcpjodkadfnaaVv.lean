/- Merged out of: Qd. -/
import Derived.Test.YtehcpjodkadfnaaVm
/- Layer 8's laws: the document's table of the program's. -/
set_option linter.unusedSimpArgs false
set_option linter.unusedVariables false
set_option maxRecDepth 100000
namespace Go.Proofs.Ytehcpjodkadfnaa
open Go.RowKit Go.Lib

theorem take_cells {ms : List Mv} {k : Nat} {x : Mv} (h : ms[k]? = some x) : cellsM (ms.take (k + 1)) = cellsM (ms.take k) ++ [.int .i64 x.f, .int .i64 x.d.k, .int .u64 x.d.b, .string x.d.t] := by
  rw [List.take_add_one, h, cellsM_append]
  rfl
set_option maxHeartbeats 4000000 in
theorem plain_m (t : Tb) (Ao An Am : Option Addr) (co cn cm no nn nm : Nat) (hnm : t.m.length = nm) (hs : nm ≤ 1000) (w : World) (am : Rd w Am (cellsM t.m)) :
    Calls Try.prog 14 #[.agg #[.slice Ao no co, .slice An nn cn, .slice Am nm cm]] w fun e w' => ∃ v, e = .returned (.agg #[.slice Ao no co, .slice An nn cn, v]) ∧ w'.ownsRow w.heap.size 71 4 v nm (cellsM t.m) ∧ Below w.heap.size w w' := by
  obtain ⟨i0, hi, hz0, hz1, hz2⟩ := info_parts infoMr
  have T0 : OBox (w.alloc (.cells #[.slice Ao no co, .slice An nn cn, .slice Am nm cm] 36)) w.heap.size [.slice Ao no co, .slice An nn cn, .slice Am nm cm] 36 := OBox.new w _ _
  have T1 := T0.below (below_new (.cells #[.slice none 0 0, .slice none 0 0, .slice none 0 0] 43))
  have T2 := T1.below (below_new (.cells #[.slice Ao no co, .slice An nn cn, .slice none 0 0] 43))
  have R1 : OBox ((w.alloc (.cells #[.slice Ao no co, .slice An nn cn, .slice Am nm cm] 36)).alloc (.cells #[.slice none 0 0, .slice none 0 0, .slice none 0 0] 43)) (w.heap.size + 1) [.slice none 0 0, .slice none 0 0, .slice none 0 0] 43 := by have := OBox.new (w.alloc (.cells #[.slice Ao no co, .slice An nn cn, .slice Am nm cm] 36)) [.slice none 0 0, .slice none 0 0, .slice none 0 0] 43; rw [World.size_alloc] at this; exact this
  have R2 := R1.below (below_new (.cells #[.slice Ao no co, .slice An nn cn, .slice none 0 0] 43))
  have O2 : OBox (((w.alloc (.cells #[.slice Ao no co, .slice An nn cn, .slice Am nm cm] 36)).alloc (.cells #[.slice none 0 0, .slice none 0 0, .slice none 0 0] 43)).alloc (.cells #[.slice Ao no co, .slice An nn cn, .slice none 0 0] 43)) (w.heap.size + 2) [.slice Ao no co, .slice An nn cn, .slice none 0 0] 43 := by have := OBox.new ((w.alloc (.cells #[.slice Ao no co, .slice An nn cn, .slice Am nm cm] 36)).alloc (.cells #[.slice none 0 0, .slice none 0 0, .slice none 0 0] 43)) [.slice Ao no co, .slice An nn cn, .slice none 0 0] 43; rw [World.size_alloc, World.size_alloc] at this; exact this
  have HB0 : Below w.heap.size w (((w.alloc (.cells #[.slice Ao no co, .slice An nn cn, .slice Am nm cm] 36)).alloc (.cells #[.slice none 0 0, .slice none 0 0, .slice none 0 0] 43)).alloc (.cells #[.slice Ao no co, .slice An nn cn, .slice none 0 0] 43)) := below_seq (below_new _) (below_seq (below_new _) (below_new _))
  have hz0' : w.heap.size + 2 < (((w.alloc (.cells #[.slice Ao no co, .slice An nn cn, .slice Am nm cm] 36)).alloc (.cells #[.slice none 0 0, .slice none 0 0, .slice none 0 0] 43)).alloc (.cells #[.slice Ao no co, .slice An nn cn, .slice none 0 0] 43)).heap.size := by simp
  have HM := Lib.hid hnm
  clear hnm
  obtain ⟨a0, a1, a2, a3, a4, a5⟩ := T1.f3
  obtain ⟨b0, b1, b2, b3, b4, b5⟩ := T2.f3
  go_enter Try.func14, Try.ntmps14
  go_wp2
  clear a0 a1 a2 a3 a4 a5 b0 b1 b2 b3 b4 b5 T0 T1 T2 R1
  go_loopw [5, 14] (fun _ i wr => ∃ (k : Nat) (v : Value), k ≤ nm ∧ i = .int .i64 k ∧ wr.ownsRow (w.heap.size + 3) 71 4 v k (cellsM (t.m.take k)) ∧ OBox wr (w.heap.size + 2) [.slice Ao no co, .slice An nn cn, v] 43 ∧ OBox wr (w.heap.size + 1) [.slice none 0 0, .slice none 0 0, .slice none 0 0] 43 ∧ Below w.heap.size w wr ∧ w.heap.size + 2 < wr.heap.size) (fun _ i _ => nm - (intOf i).toNat)
  case atStart => exact ⟨0, _, by omega, rfl, own_nil _ _ _ _, O2, R2, HB0, hz0'⟩
  case round =>
    obtain ⟨k, v, hk, rfl, hown, O, R, HB, hz⟩ := hrel
    clear R2 O2 HB0 hz0'
    by_cases hlt : k < nm
    · obtain ⟨x, hx⟩ : ∃ x, t.m[k]? = some x := ⟨_, List.getElem?_eq_getElem (by rw [HM.out]; exact hlt)⟩
      have HK := Lib.hid (take_cells hx)
      have hk1 : (k : Int) < (nm : Int) := by omega
      obtain ⟨ad, e, m0, m1, m2, m3⟩ := (am.below HB).mv hx
      subst e
      have nb1 := below_new (w := wr) (.cells #[.int .i64 x.f, .int .i64 x.d.k, .int .u64 x.d.b, .string x.d.t] 63)
      obtain ⟨x0, x1, x2, x3⟩ := MBox.new wr x 63
      obtain ⟨k0, k1, k2, f0, f1, f2⟩ := (O.below nb1).f3
      obtain ⟨W4, hW4⟩ : ∃ W, wr.alloc (.cells #[.int .i64 x.f, .int .i64 x.d.k, .int .u64 x.d.b, .string x.d.t] 63) = W := ⟨_, rfl⟩
      have hw4 : W4.heap.size = wr.heap.size + 1 := by rw [← hW4]; simp
      have HW4 := Lib.hid hw4
      clear hw4
      have hown4 := hown.alloc (.cells #[.int .i64 x.f, .int .i64 x.d.k, .int .u64 x.d.b, .string x.d.t] 63)
      go_upto_region 5 with fail
      rw [hW4] at nb1 x0 x1 x2 x3 k0 k1 k2 f0 f1 f2 hown4
      clear hx m0 m1 m2 m3 hW4
      go_wp2_with (at_builtin; refine wpList_append_own _ rfl _ _ 41 rfl (w.heap.size + 3) 71 i0 (.agg #[.int .i64 0, .int .i64 0, .int .u64 0, .string ⟨#[]⟩]) 4 40 Try.underlying41 hi hz0 hz1 hz2 rfl (by decide) _ _ _ rfl (hown4.alloc _) ⟨W4.heap.size, 0, none⟩ 1 1 [.int .i64 x.f, .int .i64 x.d.k, .int .u64 x.d.b, .string x.d.t] rfl rfl ?c1 ?c2 ?c3 ?c4 ?c5 ?_)
      case c1 => exact news4 _ _ _ _ _ _
      case c2 => intro u hu; simp at hu; rcases hu with rfl | rfl | rfl | rfl <;> rfl
      case c3 => simp only [maxLen]; omega
      case c4 => have := HW4.out; omega
      case c5 => have := HW4.out; simp; omega
      intro v' w3 hown' hgrow _
      have hw4 := HW4.out
      have BG : Below (w.heap.size + 3) W4 w3 := ((Below.refl _ _).alloc (by omega) (.cells #[.int .i64 x.f, .int .i64 x.d.k, .int .u64 x.d.b, .string x.d.t] 71)).grown hgrow (by simp <;> omega) (fun q hq => own_base hown4 q hq)
      have BG2 : Below (w.heap.size + 3) wr w3 := (nb1.mono (by omega)).trans BG
      have O3 : OBox w3 (w.heap.size + 2) [.slice Ao no co, .slice An nn cn, v] 43 := (BG2.block _ (by omega)).trans O
      have R3 : OBox w3 (w.heap.size + 1) [.slice none 0 0, .slice none 0 0, .slice none 0 0] 43 := (BG2.block _ (by omega)).trans R
      have HB3 := HB.trans (BG2.mono (by omega))
      have hown3 : w3.ownsRow (w.heap.size + 3) 71 4 v' (k + 1) (cellsM (t.m.take (k + 1))) := own_eq hown' (by simp) (by rw [HK.out])
      have hz3 := BG2.size
      obtain ⟨B', c', rfl, _, _, _⟩ := own_rd hown3
      clear hown' hgrow hown k0 k1 k2 f0 f1 f2 hw4 nb1 x0 x1 x2 x3
      obtain ⟨k0, k1, k2, f0, f1, f2⟩ := O3.f3
      go_wp2
      go_roundw
      case rel => exact ⟨k + 1, _, by omega, by go_num, ownsRow_setCell_below hown3 (by show _ < _; simp <;> omega) _, obox_set O3 2 _, (Below.heap_setCell _ _ _ _ (by show _ ≠ _; simp <;> omega)).trans R3, HB3.setCell (by show _ ≤ _; simp <;> omega) _, by simp <;> omega⟩
      case measure => simp [intOf]; omega
    · obtain rfl : k = nm := by omega
      have hall : t.m.take k = t.m := List.take_of_length_le (by rw [HM.out]; exact Nat.le_refl _)
      rw [hall] at hown
      obtain ⟨B', c', rfl, _, _, _⟩ := own_rd hown
      obtain ⟨k0, k1, k2, f0, f1, f2⟩ := O.f3
      obtain ⟨q0, q1, q2, p0, p1, p2⟩ := R.f3
      go_wp2
      refine bodyPost_ret (v := .agg #[.slice Ao no co, .slice An nn cn, .slice B' k c']) (by simp [results, Try.results14, go_sem, *]; done) rfl ⟨_, rfl, ?_, ?_⟩
      · refine own_mono (ownsRow_setCell_below (ownsRow_setCell_below (ownsRow_setCell_below hown ?_ _) ?_ _) ?_ _) (by omega) <;> (show _ < _; simp <;> omega)
      · (repeat (first | exact HB | refine Below.setCell ?_ (by dsimp only; omega) _ | refine Below.alloc ?_ (by have hs_ := HB.size; first | (simp; done) | (simp; omega) | omega) _ | apply Below.drew))
end Go.Proofs.Ytehcpjodkadfnaa
