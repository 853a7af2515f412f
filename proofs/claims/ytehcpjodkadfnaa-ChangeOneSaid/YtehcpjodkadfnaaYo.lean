/- The law ChangeOne: WHATEVER THE INPUT it tells true, it never panics, and the input reads as it did. Merged out of: Qd Qe Zo. -/
import Derived.Test.YtehcpjodkadfnaaVm
import Derived.Test.YtehcpjodkadfnaaVo
import Derived.Deep.RegionHeld3
import Derived.Test.YtehcpjodkadfnaaRows
import Derived.Test.YtehcpjodkadfnaaVn
/- Layer 8's laws: the document's table of the program's. -/
set_option linter.unusedSimpArgs false
set_option linter.unusedVariables false
set_option maxRecDepth 100000
namespace Go.Proofs.Ytehcpjodkadfnaa
open Go.RowKit Go.Lib

theorem take_cells {ms : List Mv} {k : Nat} {x : Mv} (h : ms[k]? = some x) : cellsM (ms.take (k + 1)) = cellsM (ms.take k) ++ [.int .i64 x.f, .int .i64 x.d.k, .int .u64 x.d.b, .string x.d.t] := by
  rw [List.take_add_one, h, cellsM_append]
  rfl
set_option maxHeartbeats 4000000 in
theorem plain_m (t : Tb) (Ao An Am : Option Addr) (co cn cm no nn nm : Nat) (hnm : t.m.length = nm) (hs : nm ≤ 1000) (w : World) (am : Rd w Am (cellsM t.m)) :
    Calls Try.prog 14 #[.agg #[.slice Ao no co, .slice An nn cn, .slice Am nm cm]] w fun e w' => ∃ v, e = .returned (.agg #[.slice Ao no co, .slice An nn cn, v]) ∧ w'.ownsRow w.heap.size 71 4 v nm (cellsM t.m) ∧ Below w.heap.size w w' := by
  obtain ⟨i0, hi, hz0, hz1, hz2⟩ := info_parts infoMr
  have T0 : OBox (w.alloc (.cells #[.slice Ao no co, .slice An nn cn, .slice Am nm cm] 36)) w.heap.size [.slice Ao no co, .slice An nn cn, .slice Am nm cm] 36 := OBox.new w _ _
  have T1 := T0.below (below_new (.cells #[.slice none 0 0, .slice none 0 0, .slice none 0 0] 43))
  have T2 := T1.below (below_new (.cells #[.slice Ao no co, .slice An nn cn, .slice none 0 0] 43))
  have R1 : OBox ((w.alloc (.cells #[.slice Ao no co, .slice An nn cn, .slice Am nm cm] 36)).alloc (.cells #[.slice none 0 0, .slice none 0 0, .slice none 0 0] 43)) (w.heap.size + 1) [.slice none 0 0, .slice none 0 0, .slice none 0 0] 43 := by have := OBox.new (w.alloc (.cells #[.slice Ao no co, .slice An nn cn, .slice Am nm cm] 36)) [.slice none 0 0, .slice none 0 0, .slice none 0 0] 43; rw [World.size_alloc] at this; exact this
  have R2 := R1.below (below_new (.cells #[.slice Ao no co, .slice An nn cn, .slice none 0 0] 43))
  have O2 : OBox (((w.alloc (.cells #[.slice Ao no co, .slice An nn cn, .slice Am nm cm] 36)).alloc (.cells #[.slice none 0 0, .slice none 0 0, .slice none 0 0] 43)).alloc (.cells #[.slice Ao no co, .slice An nn cn, .slice none 0 0] 43)) (w.heap.size + 2) [.slice Ao no co, .slice An nn cn, .slice none 0 0] 43 := by have := OBox.new ((w.alloc (.cells #[.slice Ao no co, .slice An nn cn, .slice Am nm cm] 36)).alloc (.cells #[.slice none 0 0, .slice none 0 0, .slice none 0 0] 43)) [.slice Ao no co, .slice An nn cn, .slice none 0 0] 43; rw [World.size_alloc, World.size_alloc] at this; exact this
  have HB0 : Below w.heap.size w (((w.alloc (.cells #[.slice Ao no co, .slice An nn cn, .slice Am nm cm] 36)).alloc (.cells #[.slice none 0 0, .slice none 0 0, .slice none 0 0] 43)).alloc (.cells #[.slice Ao no co, .slice An nn cn, .slice none 0 0] 43)) := below_seq (below_new _) (below_seq (below_new _) (below_new _))
  have hz0' : w.heap.size + 2 < (((w.alloc (.cells #[.slice Ao no co, .slice An nn cn, .slice Am nm cm] 36)).alloc (.cells #[.slice none 0 0, .slice none 0 0, .slice none 0 0] 43)).alloc (.cells #[.slice Ao no co, .slice An nn cn, .slice none 0 0] 43)).heap.size := by simp
  have HM := Lib.hid hnm
  clear hnm
  obtain ⟨a0, a1, a2, a3, a4, a5⟩ := T1.f3
  obtain ⟨b0, b1, b2, b3, b4, b5⟩ := T2.f3
  go_enter Try.func14, Try.ntmps14
  go_wp2
  clear a0 a1 a2 a3 a4 a5 b0 b1 b2 b3 b4 b5 T0 T1 T2 R1
  go_loopw [5, 14] (fun _ i wr => ∃ (k : Nat) (v : Value), k ≤ nm ∧ i = .int .i64 k ∧ wr.ownsRow (w.heap.size + 3) 71 4 v k (cellsM (t.m.take k)) ∧ OBox wr (w.heap.size + 2) [.slice Ao no co, .slice An nn cn, v] 43 ∧ OBox wr (w.heap.size + 1) [.slice none 0 0, .slice none 0 0, .slice none 0 0] 43 ∧ Below w.heap.size w wr ∧ w.heap.size + 2 < wr.heap.size) (fun _ i _ => nm - (intOf i).toNat)
  case atStart => exact ⟨0, _, by omega, rfl, own_nil _ _ _ _, O2, R2, HB0, hz0'⟩
  case round =>
    obtain ⟨k, v, hk, rfl, hown, O, R, HB, hz⟩ := hrel
    clear R2 O2 HB0 hz0'
    by_cases hlt : k < nm
    · obtain ⟨x, hx⟩ : ∃ x, t.m[k]? = some x := ⟨_, List.getElem?_eq_getElem (by rw [HM.out]; exact hlt)⟩
      have HK := Lib.hid (take_cells hx)
      have hk1 : (k : Int) < (nm : Int) := by omega
      obtain ⟨ad, e, m0, m1, m2, m3⟩ := (am.below HB).mv hx
      subst e
      have nb1 := below_new (w := wr) (.cells #[.int .i64 x.f, .int .i64 x.d.k, .int .u64 x.d.b, .string x.d.t] 63)
      obtain ⟨x0, x1, x2, x3⟩ := MBox.new wr x 63
      obtain ⟨k0, k1, k2, f0, f1, f2⟩ := (O.below nb1).f3
      obtain ⟨W4, hW4⟩ : ∃ W, wr.alloc (.cells #[.int .i64 x.f, .int .i64 x.d.k, .int .u64 x.d.b, .string x.d.t] 63) = W := ⟨_, rfl⟩
      have hw4 : W4.heap.size = wr.heap.size + 1 := by rw [← hW4]; simp
      have HW4 := Lib.hid hw4
      clear hw4
      have hown4 := hown.alloc (.cells #[.int .i64 x.f, .int .i64 x.d.k, .int .u64 x.d.b, .string x.d.t] 63)
      go_upto_region 5 with fail
      rw [hW4] at nb1 x0 x1 x2 x3 k0 k1 k2 f0 f1 f2 hown4
      clear hx m0 m1 m2 m3 hW4
      go_wp2_with (at_builtin; refine wpList_append_own _ rfl _ _ 41 rfl (w.heap.size + 3) 71 i0 (.agg #[.int .i64 0, .int .i64 0, .int .u64 0, .string ⟨#[]⟩]) 4 40 Try.underlying41 hi hz0 hz1 hz2 rfl (by decide) _ _ _ rfl (hown4.alloc _) ⟨W4.heap.size, 0, none⟩ 1 1 [.int .i64 x.f, .int .i64 x.d.k, .int .u64 x.d.b, .string x.d.t] rfl rfl ?c1 ?c2 ?c3 ?c4 ?c5 ?_)
      case c1 => exact news4 _ _ _ _ _ _
      case c2 => intro u hu; simp at hu; rcases hu with rfl | rfl | rfl | rfl <;> rfl
      case c3 => simp only [maxLen]; omega
      case c4 => have := HW4.out; omega
      case c5 => have := HW4.out; simp; omega
      intro v' w3 hown' hgrow _
      have hw4 := HW4.out
      have BG : Below (w.heap.size + 3) W4 w3 := ((Below.refl _ _).alloc (by omega) (.cells #[.int .i64 x.f, .int .i64 x.d.k, .int .u64 x.d.b, .string x.d.t] 71)).grown hgrow (by simp <;> omega) (fun q hq => own_base hown4 q hq)
      have BG2 : Below (w.heap.size + 3) wr w3 := (nb1.mono (by omega)).trans BG
      have O3 : OBox w3 (w.heap.size + 2) [.slice Ao no co, .slice An nn cn, v] 43 := (BG2.block _ (by omega)).trans O
      have R3 : OBox w3 (w.heap.size + 1) [.slice none 0 0, .slice none 0 0, .slice none 0 0] 43 := (BG2.block _ (by omega)).trans R
      have HB3 := HB.trans (BG2.mono (by omega))
      have hown3 : w3.ownsRow (w.heap.size + 3) 71 4 v' (k + 1) (cellsM (t.m.take (k + 1))) := own_eq hown' (by simp) (by rw [HK.out])
      have hz3 := BG2.size
      obtain ⟨B', c', rfl, _, _, _⟩ := own_rd hown3
      clear hown' hgrow hown k0 k1 k2 f0 f1 f2 hw4 nb1 x0 x1 x2 x3
      obtain ⟨k0, k1, k2, f0, f1, f2⟩ := O3.f3
      go_wp2
      go_roundw
      case rel => exact ⟨k + 1, _, by omega, by go_num, ownsRow_setCell_below hown3 (by show _ < _; simp <;> omega) _, obox_set O3 2 _, (Below.heap_setCell _ _ _ _ (by show _ ≠ _; simp <;> omega)).trans R3, HB3.setCell (by show _ ≤ _; simp <;> omega) _, by simp <;> omega⟩
      case measure => simp [intOf]; omega
    · obtain rfl : k = nm := by omega
      have hall : t.m.take k = t.m := List.take_of_length_le (by rw [HM.out]; exact Nat.le_refl _)
      rw [hall] at hown
      obtain ⟨B', c', rfl, _, _, _⟩ := own_rd hown
      obtain ⟨k0, k1, k2, f0, f1, f2⟩ := O.f3
      obtain ⟨q0, q1, q2, p0, p1, p2⟩ := R.f3
      go_wp2
      refine bodyPost_ret (v := .agg #[.slice Ao no co, .slice An nn cn, .slice B' k c']) (by simp [results, Try.results14, go_sem, *]; done) rfl ⟨_, rfl, ?_, ?_⟩
      · refine own_mono (ownsRow_setCell_below (ownsRow_setCell_below (ownsRow_setCell_below hown ?_ _) ?_ _) ?_ _) (by omega) <;> (show _ < _; simp <;> omega)
      · (repeat (first | exact HB | refine Below.setCell ?_ (by dsimp only; omega) _ | refine Below.alloc ?_ (by have hs_ := HB.size; first | (simp; done) | (simp; omega) | omega) _ | apply Below.drew))
end Go.Proofs.Ytehcpjodkadfnaa
/- ChangeOne, walked: it tells true. -/
set_option linter.unusedSimpArgs false
set_option linter.unusedVariables false
set_option maxRecDepth 100000
namespace Go.Proofs.Ytehcpjodkadfnaa
open Go.RowKit Go.Lib

theorem sameT_refl (t : Tb) : sameT t t = true := by simp [sameT]
theorem makeE_ways (l : List Fd) (c : Ch) : makeE l c = 0 ∨ makeE l c = 60 ∨ makeE l c = 61 ∨ makeE l c = 80 := by
  unfold makeE stepE
  (repeat' split) <;> simp
theorem newM_w {l : List Fd} {c : Ch} (x0 : 0 ≤ c.d.b) (x1 : c.d.b < 18446744073709551616) : MvW (newM l c) := by
  unfold newM
  split
  · exact w_add (kM_w _) x0 x1
  · split
    · exact w_del (kM_w _) _
    · split
      · exact w_ord _
      · exact kM_w _
theorem makeT_w {l : List Fd} {c : Ch} (x0 : 0 ≤ c.d.b) (x1 : c.d.b < 18446744073709551616) : MvW (makeT l c).m := by
  unfold makeT
  split
  · exact newM_w x0 x1
  · intro m hm; cases hm
theorem rightT_small {t : Tb} (h : rightT t = true) : t.o.length ≤ 16 ∧ t.n.length ≤ 16 ∧ t.m.length ≤ 16 := by
  obtain ⟨h1, h2, h3, -⟩ := rightT_iff.1 h
  have a := (rightF_may h1).2
  have b := (rightF_may h2).2
  omega
theorem makeT_small (l : List Fd) (c : Ch) : (makeT l c).o.length ≤ 16 ∧ (makeT l c).n.length ≤ 16 ∧ (makeT l c).m.length ≤ 16 := by
  by_cases h : makeE l c = 0
  · exact rightT_small (makeE_right h).1
  · rw [makeT, if_neg h]; simp [Tb.z]
/-- what the walk keeps: two tables in boxes, what they point to, and the new fields once more -/
structure OneS (w W : World) (bt bu : Nat) (t : Tb) (no nn nm : Nat) (X0 X1 X2 U0 U1 U2 M : Option Addr) (y0 y1 y2 v0 v1 v2 : Nat) : Prop where
  B : Below w.heap.size w W
  T : TBox W bt (.slice X0 no y0) (.slice X1 nn y1) (.slice X2 nm y2)
  U : TBox W bu (.slice U0 no v0) (.slice U1 nn v1) (.slice U2 nm v2)
  r0 : Rd W X0 (cellsF t.o)
  r1 : Rd W X1 (cellsF t.n)
  r2 : Rd W X2 (cellsM t.m)
  s0 : Rd W U0 (cellsF t.o)
  s1 : Rd W U1 (cellsF t.n)
  s2 : Rd W U2 (cellsM t.m)
  f : Rd W M (cellsF t.n)
theorem OneS.below {w W W' : World} {bt bu : Nat} {t : Tb} {no nn nm : Nat} {X0 X1 X2 U0 U1 U2 M : Option Addr} {y0 y1 y2 v0 v1 v2 : Nat} (h : OneS w W bt bu t no nn nm X0 X1 X2 U0 U1 U2 M y0 y1 y2 v0 v1 v2) (hb : Below W.heap.size W W') : OneS w W' bt bu t no nn nm X0 X1 X2 U0 U1 U2 M y0 y1 y2 v0 v1 v2 :=
  ⟨h.B.trans (hb.mono h.B.size), h.T.below hb, h.U.below hb, h.r0.below hb, h.r1.below hb, h.r2.below hb, h.s0.below hb, h.s1.below hb, h.s2.below hb, h.f.below hb⟩
theorem OneS.drew {w W : World} {bt bu : Nat} {t : Tb} {no nn nm : Nat} {X0 X1 X2 U0 U1 U2 M : Option Addr} {y0 y1 y2 v0 v1 v2 : Nat} (h : OneS w W bt bu t no nn nm X0 X1 X2 U0 U1 U2 M y0 y1 y2 v0 v1 v2) : OneS w W.drew bt bu t no nn nm X0 X1 X2 U0 U1 U2 M y0 y1 y2 v0 v1 v2 :=
  ⟨h.B.drew, h.T, h.U, h.r0, h.r1, h.r2, h.s0, h.s1, h.s2, h.f⟩
set_option maxHeartbeats 4000000 in
theorem ChangeOne_m (A : Option Addr) (cA : Nat) (l : List Fd) (m : Nat) (hm : l.length = m) (hmc : m ≤ cA) (hl : m ≤ 9223372036854775807) (hs : ∀ f ∈ l, f.s.size ≤ 281474976710656) (c : Ch) (Q : Option Addr) (n qc : Nat) (w : World) (hA : Rd w A (cellsF l)) (hc : ChIn w c Q n qc) (q : Int) (hq : makeE l c = q) (t : Tb) (ht : makeT l c = t) :
    Calls Try.prog 3 #[.slice A m cA, .agg #[.int .i64 c.op, .string c.s, .string c.g.s, .int .i64 c.g.k, .int .i64 c.g.l, .int .i64 c.d.k, .int .u64 c.d.b, .string c.d.t, .slice Q n qc]] w fun e w' => e = .returned (.bool true) ∧ Below w.heap.size w w' := by
  obtain ⟨⟨p0, p1⟩, ⟨x0, x1⟩, ⟨z0, z1, z2, z3⟩, hn, hqc, hqm, RQ⟩ := hc
  obtain ⟨no, hno⟩ : ∃ x, t.o.length = x := ⟨_, rfl⟩
  obtain ⟨nn, hnn⟩ : ∃ x, t.n.length = x := ⟨_, rfl⟩
  obtain ⟨nm, hnm⟩ : ∃ x, t.m.length = x := ⟨_, rfl⟩
  have hsm : no ≤ 16 ∧ nn ≤ 16 ∧ nm ≤ 16 := by have := makeT_small l c; rw [ht, hno, hnn, hnm] at this; exact this
  have hrt : q = 0 → rightT t = true := fun h => by rw [← ht]; exact (makeE_right (by rw [hq]; exact h)).1
  have hmw : MvW t.m := by rw [← ht]; exact makeT_w x0 x1
  have bb1 := below_new (w := w) (.cells #[.int .i64 c.op, .string c.s, .string c.g.s, .int .i64 c.g.k, .int .i64 c.g.l, .int .i64 c.d.k, .int .u64 c.d.b, .string c.d.t, .slice Q n qc] 30)
  have bb2 := below_new (w := w.alloc (.cells #[.int .i64 c.op, .string c.s, .string c.g.s, .int .i64 c.g.k, .int .i64 c.g.l, .int .i64 c.d.k, .int .u64 c.d.b, .string c.d.t, .slice Q n qc] 30)) (.cells #[.int .i64 c.op, .string c.s, .string c.g.s, .int .i64 c.g.k, .int .i64 c.g.l, .int .i64 c.d.k, .int .u64 c.d.b, .string c.d.t, .slice Q n qc] 30)
  have C : CBox _ _ c (.slice Q n qc) 30 := (OBox.new w (chL c (.slice Q n qc)) 30).below bb2
  have C0 : CBox _ _ c (.slice Q n qc) 30 := OBox.new w (chL c (.slice Q n qc)) 30
  have HK : Rd ((w.alloc (.cells #[.int .i64 c.op, .string c.s, .string c.g.s, .int .i64 c.g.k, .int .i64 c.g.l, .int .i64 c.d.k, .int .u64 c.d.b, .string c.d.t, .slice Q n qc] 30)).alloc (.cells #[.int .i64 c.op, .string c.s, .string c.g.s, .int .i64 c.g.k, .int .i64 c.g.l, .int .i64 c.d.k, .int .u64 c.d.b, .string c.d.t, .slice Q n qc] 30)) (some ⟨w.heap.size + 1, 0, none⟩) (cellsC [(c, .slice Q n qc)]) := by
    have := rd_new (w.alloc (.cells #[.int .i64 c.op, .string c.s, .string c.g.s, .int .i64 c.g.k, .int .i64 c.g.l, .int .i64 c.d.k, .int .u64 c.d.b, .string c.d.t, .slice Q n qc] 30)) (cellsC [(c, .slice Q n qc)]) 30
    rw [World.size_alloc] at this
    exact this
  have HB := below_seq bb1 bb2
  have hA2 := hA.below HB
  have RQ2 := RQ.below HB
  have HCH : ∀ p ∈ [(c, Value.slice Q n qc)], ChO ((w.alloc (.cells #[.int .i64 c.op, .string c.s, .string c.g.s, .int .i64 c.g.k, .int .i64 c.g.l, .int .i64 c.d.k, .int .u64 c.d.b, .string c.d.t, .slice Q n qc] 30)).alloc (.cells #[.int .i64 c.op, .string c.s, .string c.g.s, .int .i64 c.g.k, .int .i64 c.g.l, .int .i64 c.d.k, .int .u64 c.d.b, .string c.d.t, .slice Q n qc] 30)) p := by
    intro p hp
    simp at hp
    subst hp
    exact ⟨Q, qc, by rw [← hn], by rw [hn]; exact hqc, hqm, RQ2⟩
  have HCS : ∀ p ∈ [(c, Value.slice Q n qc)], ChS p := by
    intro p hp
    simp at hp
    subst hp
    exact ⟨z0, z1, z2, z3⟩
  obtain ⟨b0, b1, b2, b3, b4, b5, b6, b7, b8⟩ := C0.c9
  obtain ⟨a0, a1, a2, a3, a4, a5, a6, a7, a8⟩ := C.c9
  have HM := Lib.hid hm
  have HN := Lib.hid hn
  have HE := Lib.hid hq
  have HT := Lib.hid ht
  have HNO := Lib.hid hno
  have HNN := Lib.hid hnn
  have HNM := Lib.hid hnm
  have HRT := Lib.hid hrt
  have HMW := Lib.hid hmw
  obtain ⟨sm0, sm1, sm2⟩ := hsm
  clear hm hn hq bb1 bb2 C0 ht hno hnn hnm hrt hmw
  go_enter Try.func3, Try.ntmps3
  go_wp2_with (first
    | (go_at_call 8; refine (few_m A cA l m HM.out _ _ [(c, .slice Q n qc)] 1 rfl _ hA2 HK HCH hs HCS hl (by omega)).mono ?_; rintro e W1 ⟨rf, rfl, hrf, hb⟩; have HRF := Lib.hid hrf; replace HB := HB.trans (hb.mono HB.size); replace C := C.below hb; obtain ⟨a0, a1, a2, a3, a4, a5, a6, a7, a8⟩ := C.c9; replace hA2 := hA2.below hb; replace RQ2 := RQ2.below hb; clear hrf hb HK HCH)
    | (go_at_call 9; refine (alive_calls8 _).mono ?_; rintro e wM ⟨rfl, hb⟩; replace HB := HB.trans (hb.mono HB.size); replace hA2 := hA2.below hb; replace RQ2 := RQ2.below hb; replace C := C.below hb; clear hb)
    | (go_at_call 10; refine (Make_m l c m HM.out hl A cA hmc Q n qc HN.out (by have h3 := HRF.out (by simpa using ‹(!rf) = false›); have h4 := h3.2.2 _ (List.mem_singleton_self _); have h5 := HN.out; simp at h4; omega) hqc p0 p1 x0 x1 _ hA2 RQ2).mono ?_))
  all_goals first
    | (go_ret; exact ⟨rfl, HB⟩)
    | skip
  have hn1 : n ≤ 4398046511104 := (by have h3 := HRF.out (by simpa using ‹(!rf) = false›); have h4 := h3.2.2 _ (List.mem_singleton_self _); have h5 := HN.out; simp at h4; omega)
  rintro e W2 ⟨X0, y0, z0, X1, y1, z1', X2, y2, z2', rfl, hTV, hb⟩
  replace hTV := HT.out ▸ hTV
  obtain ⟨_, _, _, _, _, _, ev, hd, R0, R1, R2⟩ := hTV
  cases ev
  rw [HNO.out, HNN.out, HNM.out, HE.out]
  have hB1 := (below_new (w := W2) (.cells #[.slice X0 no z0, .slice X1 nn z1', .slice X2 nm z2'] 36))
  replace HB := HB.trans (hb.mono HB.size)
  replace C := C.below hb
  replace hA2 := hA2.below hb
  replace RQ2 := RQ2.below hb
  have r0 := R0.rd
  have r1 := R1.rd
  have r2 := R2.rd
  have T := TBox.new W2 (.slice X0 no z0) (.slice X1 nn z1') (.slice X2 nm z2') 36
  clear hb R0 R1 R2 hd a0 a1 a2 a3 a4 a5 a6 a7 a8 b0 b1 b2 b3 b4 b5 b6 b7 b8
  replace HB := HB.trans (hB1.mono HB.size)
  replace C := C.below hB1
  replace hA2 := hA2.below hB1
  replace RQ2 := RQ2.below hB1
  replace r0 := r0.below hB1
  replace r1 := r1.below hB1
  replace r2 := r2.below hB1
  obtain ⟨a0, a1, a2, a3, a4, a5, a6, a7, a8⟩ := C.c9
  clear hB1
  go_wp2_with (go_at_call 11; refine (rMake_m l c m HM.out hl A cA Q n qc HN.out hn1 x0 x1 (fun f hf => by have := hs f hf; omega) (by omega) _ hA2 RQ2).mono ?_)
  rintro e W3 ⟨U0, ux0, v0, U1, ux1, v1, U2, ux2, v2, rfl, hTV, hb⟩
  replace hTV := HT.out ▸ hTV
  obtain ⟨_, _, _, _, _, _, ev, hd, R0, R1, R2⟩ := hTV
  cases ev
  rw [HNO.out, HNN.out, HNM.out, HE.out]
  have s0 := R0.rd
  have s1 := R1.rd
  have s2 := R2.rd
  have U := TBox.new W3 (.slice U0 no v0) (.slice U1 nn v1) (.slice U2 nm v2) 43
  have hB2 := hb.trans ((below_new (w := W3) (.cells #[.slice U0 no v0, .slice U1 nn v1, .slice U2 nm v2] 43)).mono hb.size)
  have hB1 := below_new (w := W3) (.cells #[.slice U0 no v0, .slice U1 nn v1, .slice U2 nm v2] 43)
  replace HB := HB.trans (hB2.mono HB.size)
  replace C := C.below hB2
  replace hA2 := hA2.below hB2
  replace RQ2 := RQ2.below hB2
  replace r0 := r0.below hB2
  replace r1 := r1.below hB2
  replace r2 := r2.below hB2
  replace T := T.below hB2
  replace s0 := s0.below hB1
  replace s1 := s1.below hB1
  replace s2 := s2.below hB1
  clear hb hB1 hB2 R0 R1 R2 hd a0 a1 a2 a3 a4 a5 a6 a7 a8
  obtain ⟨a0, a1, a2, a3, a4, a5, a6, a7, a8⟩ := C.c9
  go_wp2_with (go_at_call 12; refine (Apply_m l c m HM.out hl A cA hmc Q n qc HN.out hn1 hqc p0 p1 x0 x1 _ hA2 RQ2).mono ?_)
  rintro e W4 ⟨M, d, rfl, hd, RM, hb⟩
  rw [HT.out] at RM ⊢
  rw [HNN.out, HE.out]
  have S : OneS w W4 W2.heap.size W3.heap.size t no nn nm X0 X1 X2 U0 U1 U2 M z0 z1' z2' v0 v1 v2 :=
    ⟨HB.trans (hb.mono HB.size), T.below hb, U.below hb, r0.below hb, r1.below hb, r2.below hb, s0.below hb, s1.below hb, s2.below hb, RM.rd⟩
  clear HB T U r0 r1 r2 s0 s1 s2 RM hb C hA2 RQ2 a0 a1 a2 a3 a4 a5 a6 a7 a8 HM HN HT RQ hA
  obtain ⟨t0, t1, t2⟩ := S.T
  obtain ⟨u0, u1, u2⟩ := S.U
  go_upto_region 6 with fail
  have Sd := S.drew
  by_cases h0 : q = 0
  · subst h0
    have hRT := Lib.hid (HRT.out rfl)
    clear S
    go_region_held3 (fun W => W.cell? ⟨W2.heap.size, 0, none⟩ = some (.slice X0 no z0) ∧ W.cell? ⟨W2.heap.size, 1, none⟩ = some (.slice X1 nn z1') ∧ W.cell? ⟨W2.heap.size, 2, none⟩ = some (.slice X2 nm z2') ∧ W.cell? ⟨W3.heap.size, 0, none⟩ = some (.slice U0 no v0) ∧ W.cell? ⟨W3.heap.size, 1, none⟩ = some (.slice U1 nn v1) ∧ W.cell? ⟨W3.heap.size, 2, none⟩ = some (.slice U2 nm v2) ∧ OneS w W W2.heap.size W3.heap.size t no nn nm X0 X1 X2 U0 U1 U2 M z0 z1' z2' v0 v1 v2) (first | assumption | exact ⟨t0, t1, t2, u0, u1, u2, Sd⟩ | exact ⟨t0, t1, t2, u0, u1, u2, S⟩ | go_keep)
      (first
        | (go_at_call 9; refine (alive_calls8 _).mono ?_; rintro e wM ⟨rfl, hb⟩; rename OneS w _ W2.heap.size W3.heap.size t no nn nm X0 X1 X2 U0 U1 U2 M z0 z1' z2' v0 v1 v2 => S; replace S := S.below (by with_reducible exact hb); obtain ⟨t0, t1, t2⟩ := S.T; obtain ⟨u0, u1, u2⟩ := S.U)
        | (go_at_call 14; rename OneS w _ W2.heap.size W3.heap.size t no nn nm X0 X1 X2 U0 U1 U2 M z0 z1' z2' v0 v1 v2 => S; refine (plain_m t X0 X1 X2 z0 z1' z2' no nn nm HNM.out (by omega) _ S.r2).mono ?_; rintro e wP ⟨v, rfl, hown, hb⟩; obtain ⟨P, pc, rfl, _, _, rP⟩ := own_rd hown; clear hown; replace S := S.below (by with_reducible exact hb); obtain ⟨t0, t1, t2⟩ := S.T; obtain ⟨u0, u1, u2⟩ := S.U)
        | (go_at_call 13; rename OneS w _ W2.heap.size W3.heap.size t no nn nm X0 X1 X2 U0 U1 U2 M z0 z1' z2' v0 v1 v2 => S; rename Rd _ P (cellsM t.m) => rP; refine (Equal_m t t X0 X1 P U0 U1 U2 z0 z1' pc v0 v1 v2 no nn nm no nn nm HNO.out HNN.out HNM.out HNO.out HNN.out HNM.out (by omega) (by omega) (by omega) (by omega) (by omega) (by omega) _ S.r0 S.r1 rP S.s0 S.s1 S.s2).mono ?_; rintro e wE ⟨rfl, hb⟩; rw [sameT_refl]; replace S := S.below (by with_reducible exact hb); obtain ⟨t0, t1, t2⟩ := S.T; obtain ⟨u0, u1, u2⟩ := S.U)
        | (go_at_call 15; rename OneS w _ W2.heap.size W3.heap.size t no nn nm X0 X1 X2 U0 U1 U2 M z0 z1' z2' v0 v1 v2 => S; refine (Same6_m M U1 d v1 nn nn t.n t.n HNN.out HNN.out true (by simp [sameFB]) _ S.f S.s1 (by omega) (by omega)).mono ?_; rintro e wE ⟨rfl, hb⟩; replace S := S.below (by with_reducible exact hb); obtain ⟨t0, t1, t2⟩ := S.T; obtain ⟨u0, u1, u2⟩ := S.U)
        | (go_at_call 16; rename OneS w _ W2.heap.size W3.heap.size t no nn nm X0 X1 X2 U0 U1 U2 M z0 z1' z2' v0 v1 v2 => S; refine (TRight_m t X0 X1 X2 z0 z1' z2' no nn nm HNO.out HNN.out HNM.out (by omega) (by omega) (by omega) HMW.out _ S.r0 S.r1 S.r2).mono ?_; rintro e wE ⟨rfl, hb⟩; rw [hRT.out]; replace S := S.below (by with_reducible exact hb); obtain ⟨t0, t1, t2⟩ := S.T; obtain ⟨u0, u1, u2⟩ := S.U))
    rename OneS w _ W2.heap.size W3.heap.size t no nn nm X0 X1 X2 U0 U1 U2 M z0 z1' z2' v0 v1 v2 => S
    go_wp2_with fail
    go_ret
    exact ⟨rfl, S.B⟩
  · have hqs : q = 60 ∨ q = 61 ∨ q = 80 := by have := makeE_ways l c; rw [HE.out] at this; omega
    clear S h0
    rcases hqs with rfl | rfl | rfl
    all_goals
      refine wp_region_noPanic ?_
      refine wp_region_held_drew (S := (fun W => W.cell? ⟨W2.heap.size, 0, none⟩ = some (.slice X0 no z0) ∧ W.cell? ⟨W2.heap.size, 1, none⟩ = some (.slice X1 nn z1') ∧ W.cell? ⟨W2.heap.size, 2, none⟩ = some (.slice X2 nm z2') ∧ W.cell? ⟨W3.heap.size, 0, none⟩ = some (.slice U0 no v0) ∧ W.cell? ⟨W3.heap.size, 1, none⟩ = some (.slice U1 nn v1) ∧ W.cell? ⟨W3.heap.size, 2, none⟩ = some (.slice U2 nm v2) ∧ OneS w W W2.heap.size W3.heap.size t no nn nm X0 X1 X2 U0 U1 U2 M z0 z1' z2' v0 v1 v2)) (by kernel_rfl) ?_ (fun hHeld => ?_)
      · exact ⟨t0, t1, t2, u0, u1, u2, Sd⟩
      refine wpAnyH_ready (rs := [0]) (by kernel_rfl) (by simp) ?_
      refine AllReadyH.cons (o := _) rfl (fun K hK => ?_) AllReadyH.nil
      go_simp
      (go_at_call 9; refine (alive_calls8 _).mono ?_; rintro e wM ⟨rfl, hb⟩; rename OneS w _ W2.heap.size W3.heap.size t no nn nm X0 X1 X2 U0 U1 U2 M z0 z1' z2' v0 v1 v2 => S; replace S := S.below (by with_reducible exact hb); obtain ⟨t0, t1, t2⟩ := S.T; obtain ⟨u0, u1, u2⟩ := S.U)
      try (go_wp2_with fail)
      refine hK.out _ _ ?_ (fun hHeld => ?_)
      · (try dsimp only); first | assumption | exact ⟨t0, t1, t2, u0, u1, u2, S⟩ | go_keep
      clear hK K
      try simp only [Act.put, List.setIfInBounds_toArray, List.set_cons_zero, List.set_cons_succ, List.getElem_toArray, List.getElem_cons_succ, List.getElem_cons_zero]
      refine wpAnyH_take (i := 1) (oi := _) (v := ?_) rfl (by kernel_rfl) (by kernel_rfl) (by kernel_rfl) (fun _ _ _ h => h) (Or.inl ⟨by rfl, ?_⟩) hHeld ?_
      rotate_left
      · (intro w hSw; (try dsimp only at hSw); go_simp; first | done | with_reducible rfl)
      try simp only [Act.put, List.setIfInBounds_toArray, List.set_cons_zero, List.set_cons_succ, List.getElem_toArray, List.getElem_cons_succ, List.getElem_cons_zero]
      refine wpAnyH_take (i := 2) (oi := _) (v := ?_) rfl (by kernel_rfl) (by kernel_rfl) (by kernel_rfl) (fun _ _ _ h => h) (Or.inl ⟨by rfl, ?_⟩) hHeld ?_
      rotate_left
      · (intro w hSw; (try dsimp only at hSw); go_simp; first | done | with_reducible rfl)
      try simp only [Act.put, List.setIfInBounds_toArray, List.set_cons_zero, List.set_cons_succ, List.getElem_toArray, List.getElem_cons_succ, List.getElem_cons_zero]
      refine wpAnyH_take (i := 4) (oi := _) (v := ?_) rfl (by kernel_rfl) (by kernel_rfl) (by kernel_rfl) (fun _ _ _ h => h) (Or.inl ⟨by rfl, ?_⟩) hHeld ?_
      rotate_left
      · (intro w hSw; (try dsimp only at hSw); go_simp; first | done | with_reducible rfl)
      try simp only [Act.put, List.setIfInBounds_toArray, List.set_cons_zero, List.set_cons_succ, List.getElem_toArray, List.getElem_cons_succ, List.getElem_cons_zero]
      refine wpAnyH_ready (rs := [3]) (by kernel_rfl) (by simp) ?_
      refine AllReadyH.cons (o := _) rfl (fun K hK => ?_) AllReadyH.nil
      go_simp
      (go_at_call 14; rename OneS w _ W2.heap.size W3.heap.size t no nn nm X0 X1 X2 U0 U1 U2 M z0 z1' z2' v0 v1 v2 => S; refine (plain_m t X0 X1 X2 z0 z1' z2' no nn nm HNM.out (by omega) _ S.r2).mono ?_; rintro e wP ⟨v, rfl, hown, hb⟩; obtain ⟨P, pc, rfl, _, _, rP⟩ := own_rd hown; clear hown; replace S := S.below (by with_reducible exact hb); obtain ⟨t0, t1, t2⟩ := S.T; obtain ⟨u0, u1, u2⟩ := S.U)
      try (go_wp2_with fail)
      refine hK.out _ _ ?_ (fun hHeld => ?_)
      · (try dsimp only); first | assumption | exact ⟨t0, t1, t2, u0, u1, u2, S⟩ | go_keep
      clear hK K
      try simp only [Act.put, List.setIfInBounds_toArray, List.set_cons_zero, List.set_cons_succ, List.getElem_toArray, List.getElem_cons_succ, List.getElem_cons_zero]
      refine wpAnyH_ready (rs := [5]) (by kernel_rfl) (by simp) ?_
      refine AllReadyH.cons (o := _) rfl (fun K hK => ?_) AllReadyH.nil
      go_simp
      (go_at_call 13; rename OneS w _ W2.heap.size W3.heap.size t no nn nm X0 X1 X2 U0 U1 U2 M z0 z1' z2' v0 v1 v2 => S; rename Rd _ P (cellsM t.m) => rP; refine (Equal_m t t X0 X1 P U0 U1 U2 z0 z1' pc v0 v1 v2 no nn nm no nn nm HNO.out HNN.out HNM.out HNO.out HNN.out HNM.out (by omega) (by omega) (by omega) (by omega) (by omega) (by omega) _ S.r0 S.r1 rP S.s0 S.s1 S.s2).mono ?_; rintro e wE ⟨rfl, hb⟩; rw [sameT_refl]; replace S := S.below (by with_reducible exact hb); obtain ⟨t0, t1, t2⟩ := S.T; obtain ⟨u0, u1, u2⟩ := S.U)
      try (go_wp2_with fail)
      refine hK.out _ _ ?_ (fun hHeld => ?_)
      · (try dsimp only); first | assumption | exact ⟨t0, t1, t2, u0, u1, u2, S⟩ | go_keep
      clear hK K
      try simp only [Act.put, List.setIfInBounds_toArray, List.set_cons_zero, List.set_cons_succ, List.getElem_toArray, List.getElem_cons_succ, List.getElem_cons_zero]
      refine wpAnyH_take (i := 6) (oi := _) (v := ?_) rfl (by kernel_rfl) (by kernel_rfl) (by kernel_rfl) (fun _ _ _ h => h) (Or.inl ⟨by rfl, ?_⟩) hHeld ?_
      rotate_left
      · (intro w hSw; (try dsimp only at hSw); go_simp; first | done | with_reducible rfl)
      try simp only [Act.put, List.setIfInBounds_toArray, List.set_cons_zero, List.set_cons_succ, List.getElem_toArray, List.getElem_cons_succ, List.getElem_cons_zero]
      refine wpAnyH_take (i := 7) (oi := _) (v := ?_) rfl (by kernel_rfl) (by kernel_rfl) (by kernel_rfl) (fun _ _ _ h => h) (Or.inl ⟨by rfl, ?_⟩) hHeld ?_
      rotate_left
      · (intro w hSw; (try dsimp only at hSw); go_simp; first | done | with_reducible rfl)
      try simp only [Act.put, List.setIfInBounds_toArray, List.set_cons_zero, List.set_cons_succ, List.getElem_toArray, List.getElem_cons_succ, List.getElem_cons_zero]
      refine wpAnyH_take (i := 8) (oi := _) (v := ?_) rfl (by kernel_rfl) (by kernel_rfl) (by kernel_rfl) (fun _ _ _ h => h) (Or.inl ⟨by rfl, ?_⟩) hHeld ?_
      rotate_left
      · (intro w hSw; (try dsimp only at hSw); go_simp; first | done | with_reducible rfl)
      try simp only [Act.put, List.setIfInBounds_toArray, List.set_cons_zero, List.set_cons_succ, List.getElem_toArray, List.getElem_cons_succ, List.getElem_cons_zero]
      refine wpAnyH_take (i := 9) (oi := _) (v := ?_) rfl (by kernel_rfl) (by kernel_rfl) (by kernel_rfl) (fun _ _ _ h => h) (Or.inl ⟨by rfl, ?_⟩) hHeld ?_
      rotate_left
      · (intro w hSw; (try dsimp only at hSw); go_simp; first | done | with_reducible rfl)
      try simp only [Act.put, List.setIfInBounds_toArray, List.set_cons_zero, List.set_cons_succ, List.getElem_toArray, List.getElem_cons_succ, List.getElem_cons_zero]
      refine wpAnyH_take (i := 10) (oi := _) (v := ?_) rfl (by kernel_rfl) (by kernel_rfl) (by kernel_rfl) (fun _ _ _ h => h) (Or.inl ⟨by rfl, ?_⟩) hHeld ?_
      rotate_left
      · (intro w hSw; (try dsimp only at hSw); go_simp; first | done | with_reducible rfl)
      try simp only [Act.put, List.setIfInBounds_toArray, List.set_cons_zero, List.set_cons_succ, List.getElem_toArray, List.getElem_cons_succ, List.getElem_cons_zero]
      refine wpAnyH_take (i := 11) (oi := _) (v := ?_) rfl (by kernel_rfl) (by kernel_rfl) (by kernel_rfl) (fun _ _ _ h => h) (Or.inl ⟨by rfl, ?_⟩) hHeld ?_
      rotate_left
      · (intro w hSw; (try dsimp only at hSw); go_simp; first | done | with_reducible rfl)
      try simp only [Act.put, List.setIfInBounds_toArray, List.set_cons_zero, List.set_cons_succ, List.getElem_toArray, List.getElem_cons_succ, List.getElem_cons_zero]
      refine wpAnyH_take (i := 12) (oi := _) (v := ?_) rfl (by kernel_rfl) (by kernel_rfl) (by kernel_rfl) (fun _ _ _ h => h) (Or.inl ⟨by rfl, ?_⟩) hHeld ?_
      rotate_left
      · (intro w hSw; (try dsimp only at hSw); go_simp; first | done | with_reducible rfl)
      try simp only [Act.put, List.setIfInBounds_toArray, List.set_cons_zero, List.set_cons_succ, List.getElem_toArray, List.getElem_cons_succ, List.getElem_cons_zero]
      refine wpAnyH_take (i := 13) (oi := _) (v := ?_) rfl (by kernel_rfl) (by kernel_rfl) (by kernel_rfl) (fun _ _ _ h => h) (Or.inl ⟨by rfl, ?_⟩) hHeld ?_
      rotate_left
      · (intro w hSw; (try dsimp only at hSw); go_simp; first | done | with_reducible rfl)
      try simp only [Act.put, List.setIfInBounds_toArray, List.set_cons_zero, List.set_cons_succ, List.getElem_toArray, List.getElem_cons_succ, List.getElem_cons_zero]
      refine wpAnyH_take (i := 14) (oi := _) (v := ?_) rfl (by kernel_rfl) (by kernel_rfl) (by kernel_rfl) (fun _ _ _ h => h) (Or.inl ⟨by rfl, ?_⟩) hHeld ?_
      rotate_left
      · (intro w hSw; (try dsimp only at hSw); go_simp; first | done | with_reducible rfl)
      try simp only [Act.put, List.setIfInBounds_toArray, List.set_cons_zero, List.set_cons_succ, List.getElem_toArray, List.getElem_cons_succ, List.getElem_cons_zero]
      refine wpAnyH_take (i := 15) (oi := _) (v := ?_) rfl (by kernel_rfl) (by kernel_rfl) (by kernel_rfl) (fun _ _ _ h => h) (Or.inl ⟨by rfl, ?_⟩) hHeld ?_
      rotate_left
      · (intro w hSw; (try dsimp only at hSw); go_simp; first | done | with_reducible rfl)
      try simp only [Act.put, List.setIfInBounds_toArray, List.set_cons_zero, List.set_cons_succ, List.getElem_toArray, List.getElem_cons_succ, List.getElem_cons_zero]
      refine wpAnyH_ready (rs := [16]) (by kernel_rfl) (by simp) ?_
      refine AllReadyH.cons (o := _) rfl (fun K hK => ?_) AllReadyH.nil
      go_simp
      (go_at_call 15; rename OneS w _ W2.heap.size W3.heap.size t no nn nm X0 X1 X2 U0 U1 U2 M z0 z1' z2' v0 v1 v2 => S; refine (Same6_m M U1 d v1 nn nn t.n t.n HNN.out HNN.out true (by simp [sameFB]) _ S.f S.s1 (by omega) (by omega)).mono ?_; rintro e wE ⟨rfl, hb⟩; replace S := S.below (by with_reducible exact hb); obtain ⟨t0, t1, t2⟩ := S.T; obtain ⟨u0, u1, u2⟩ := S.U)
      try (go_wp2_with fail)
      refine hK.out _ _ ?_ (fun hHeld => ?_)
      · (try dsimp only); first | assumption | exact ⟨t0, t1, t2, u0, u1, u2, S⟩ | go_keep
      clear hK K
      try simp only [Act.put, List.setIfInBounds_toArray, List.set_cons_zero, List.set_cons_succ, List.getElem_toArray, List.getElem_cons_succ, List.getElem_cons_zero]
      refine wpAnyH_take (i := 17) (oi := _) (v := ?_) rfl (by kernel_rfl) (by kernel_rfl) (by kernel_rfl) (fun _ _ _ h => h) (Or.inl ⟨by rfl, ?_⟩) hHeld ?_
      rotate_left
      · (intro w hSw; (try dsimp only at hSw); go_simp; first | done | with_reducible rfl)
      try simp only [Act.put, List.setIfInBounds_toArray, List.set_cons_zero, List.set_cons_succ, List.getElem_toArray, List.getElem_cons_succ, List.getElem_cons_zero]
      refine wpAnyH_take (i := 18) (oi := _) (v := ?_) rfl (by kernel_rfl) (by kernel_rfl) (by kernel_rfl) (fun _ _ _ h => h) (Or.inl ⟨by rfl, ?_⟩) hHeld ?_
      rotate_left
      · (intro w hSw; (try dsimp only at hSw); go_simp; first | done | with_reducible rfl)
      try simp only [Act.put, List.setIfInBounds_toArray, List.set_cons_zero, List.set_cons_succ, List.getElem_toArray, List.getElem_cons_succ, List.getElem_cons_zero]
      refine wpAnyH_take (i := 19) (oi := _) (v := ?_) rfl (by kernel_rfl) (by kernel_rfl) (by kernel_rfl) (fun _ _ _ h => h) (Or.inl ⟨by rfl, ?_⟩) hHeld ?_
      rotate_left
      · (intro w hSw; (try dsimp only at hSw); go_simp; first | done | with_reducible rfl)
      try simp only [Act.put, List.setIfInBounds_toArray, List.set_cons_zero, List.set_cons_succ, List.getElem_toArray, List.getElem_cons_succ, List.getElem_cons_zero]
      refine wpAnyH_take (i := 20) (oi := _) (v := ?_) rfl (by kernel_rfl) (by kernel_rfl) (by kernel_rfl) (fun _ _ _ h => h) (Or.inl ⟨by rfl, ?_⟩) hHeld ?_
      rotate_left
      · (intro w hSw; (try dsimp only at hSw); go_simp; first | done | with_reducible rfl)
      try simp only [Act.put, List.setIfInBounds_toArray, List.set_cons_zero, List.set_cons_succ, List.getElem_toArray, List.getElem_cons_succ, List.getElem_cons_zero]
      refine wpAnyH_take (i := 21) (oi := _) (v := ?_) rfl (by kernel_rfl) (by kernel_rfl) (by kernel_rfl) (fun _ _ _ h => h) (Or.inl ⟨by rfl, ?_⟩) hHeld ?_
      rotate_left
      · (intro w hSw; (try dsimp only at hSw); go_simp; first | done | with_reducible rfl)
      try simp only [Act.put, List.setIfInBounds_toArray, List.set_cons_zero, List.set_cons_succ, List.getElem_toArray, List.getElem_cons_succ, List.getElem_cons_zero]
      refine wpAnyH_take (i := 22) (oi := _) (v := ?_) rfl (by kernel_rfl) (by kernel_rfl) (by kernel_rfl) (fun _ _ _ h => h) (Or.inl ⟨by rfl, ?_⟩) hHeld ?_
      rotate_left
      · (intro w hSw; (try dsimp only at hSw); go_simp; first | done | with_reducible rfl)
      try simp only [Act.put, List.setIfInBounds_toArray, List.set_cons_zero, List.set_cons_succ, List.getElem_toArray, List.getElem_cons_succ, List.getElem_cons_zero]
      refine wpAnyH_take (i := 23) (oi := _) (v := ?_) rfl (by kernel_rfl) (by kernel_rfl) (by kernel_rfl) (fun _ _ _ h => h) (Or.inl ⟨by rfl, ?_⟩) hHeld ?_
      rotate_left
      · (intro w hSw; (try dsimp only at hSw); go_simp; first | done | with_reducible rfl)
      try simp only [Act.put, List.setIfInBounds_toArray, List.set_cons_zero, List.set_cons_succ, List.getElem_toArray, List.getElem_cons_succ, List.getElem_cons_zero]
      refine wpAnyH_take (i := 24) (oi := _) (v := ?_) rfl (by kernel_rfl) (by kernel_rfl) (by kernel_rfl) (fun _ _ _ h => h) (Or.inl ⟨by rfl, ?_⟩) hHeld ?_
      rotate_left
      · (intro w hSw; (try dsimp only at hSw); go_simp; first | done | with_reducible rfl)
      try simp only [Act.put, List.setIfInBounds_toArray, List.set_cons_zero, List.set_cons_succ, List.getElem_toArray, List.getElem_cons_succ, List.getElem_cons_zero]
      refine wpAnyH_take (i := 25) (oi := _) (v := ?_) rfl (by kernel_rfl) (by kernel_rfl) (by kernel_rfl) (fun _ _ _ h => h) (Or.inl ⟨by rfl, ?_⟩) hHeld ?_
      rotate_left
      · (intro w hSw; (try dsimp only at hSw); go_simp; first | done | with_reducible rfl)
      try simp only [Act.put, List.setIfInBounds_toArray, List.set_cons_zero, List.set_cons_succ, List.getElem_toArray, List.getElem_cons_succ, List.getElem_cons_zero]
      refine wpAnyH_take (i := 26) (oi := _) (v := ?_) rfl (by kernel_rfl) (by kernel_rfl) (by kernel_rfl) (fun _ _ _ h => h) (Or.inl ⟨by rfl, ?_⟩) hHeld ?_
      rotate_left
      · (intro w hSw; (try dsimp only at hSw); go_simp; first | done | with_reducible rfl)
      try simp only [Act.put, List.setIfInBounds_toArray, List.set_cons_zero, List.set_cons_succ, List.getElem_toArray, List.getElem_cons_succ, List.getElem_cons_zero]
      refine wpAnyH_ready (rs := [27]) (by kernel_rfl) (by simp) ?_
      refine AllReadyH.cons (o := _) rfl (fun K hK => ?_) AllReadyH.nil
      go_simp
      refine hK.out _ _ ?_ (fun hHeld => ?_)
      · (try dsimp only); first | assumption | exact ⟨t0, t1, t2, u0, u1, u2, S⟩ | go_keep
      clear hK K
      try simp only [Act.put, List.setIfInBounds_toArray, List.set_cons_zero, List.set_cons_succ, List.getElem_toArray, List.getElem_cons_succ, List.getElem_cons_zero]
      refine wpAnyH_ready (rs := [28]) (by kernel_rfl) (by simp) ?_
      refine AllReadyH.cons (o := _) rfl (fun K hK => ?_) AllReadyH.nil
      go_simp
      refine hK.out _ _ ?_ (fun hHeld => ?_)
      · (try dsimp only); first | assumption | exact ⟨t0, t1, t2, u0, u1, u2, S⟩ | go_keep
      clear hK K
      try simp only [Act.put, List.setIfInBounds_toArray, List.set_cons_zero, List.set_cons_succ, List.getElem_toArray, List.getElem_cons_succ, List.getElem_cons_zero]
      refine wpAnyH_take (i := 29) (oi := _) (v := ?_) rfl (by kernel_rfl) (by kernel_rfl) (by kernel_rfl) (fun _ _ _ h => h) (Or.inl ⟨by rfl, ?_⟩) hHeld ?_
      rotate_left
      · (intro w hSw; (try dsimp only at hSw); go_simp; first | done | with_reducible rfl)
      try simp only [Act.put, List.setIfInBounds_toArray, List.set_cons_zero, List.set_cons_succ, List.getElem_toArray, List.getElem_cons_succ, List.getElem_cons_zero]
      refine wpAnyH_take (i := 30) (oi := _) (v := ?_) rfl (by kernel_rfl) (by kernel_rfl) (by kernel_rfl) (fun _ _ _ h => h) (Or.inl ⟨by rfl, ?_⟩) hHeld ?_
      rotate_left
      · (intro w hSw; (try dsimp only at hSw); go_simp; first | done | with_reducible rfl)
      try simp only [Act.put, List.setIfInBounds_toArray, List.set_cons_zero, List.set_cons_succ, List.getElem_toArray, List.getElem_cons_succ, List.getElem_cons_zero]
      refine wpAnyH_take (i := 31) (oi := _) (v := ?_) rfl (by kernel_rfl) (by kernel_rfl) (by kernel_rfl) (fun _ _ _ h => h) (Or.inl ⟨by rfl, ?_⟩) hHeld ?_
      rotate_left
      · (intro w hSw; (try dsimp only at hSw); go_simp; first | done | with_reducible rfl)
      try simp only [Act.put, List.setIfInBounds_toArray, List.set_cons_zero, List.set_cons_succ, List.getElem_toArray, List.getElem_cons_succ, List.getElem_cons_zero]
      refine wpAnyH_done (by kernel_rfl) ?_ _
      refine NoPanic.normal ?_
    all_goals rename OneS w _ W2.heap.size W3.heap.size t no nn nm X0 X1 X2 U0 U1 U2 M z0 z1' z2' v0 v1 v2 => S
    all_goals go_wp2_with fail
    all_goals go_ret
    all_goals exact ⟨rfl, S.B⟩
theorem ChangeOne_row (A : Option Addr) (cA : Nat) (l : List Fd) (c : Ch) (Q : Option Addr) (qc : Nat) (w : World) (hA : Rd w A (cellsF l)) (hmc : l.length ≤ cA) (hz : (∀ f ∈ l, f.s.size ≤ 281474976710656) ∧ l.length ≤ 281474976710656)
    (hr : (-9223372036854775808 ≤ c.op ∧ c.op ≤ 9223372036854775807) ∧ (0 ≤ c.d.b ∧ c.d.b < 18446744073709551616) ∧ c.q.length ≤ qc ∧ qc ≤ maxLen ∧ Rd w Q (cellsI c.q)) (hs : c.s.size ≤ 281474976710656 ∧ c.g.s.size ≤ 281474976710656 ∧ c.d.t.size ≤ 281474976710656 ∧ c.q.length ≤ 281474976710656) :
    Calls Try.prog 3 #[.slice A l.length cA, .agg (chL c (.slice Q c.q.length qc)).toArray] w fun e w' => e = .returned (.bool true) ∧ Below w.heap.size w w' :=
  ChangeOne_m A cA l l.length rfl hmc (by omega) hz.1 c Q c.q.length qc w hA ⟨hr.1, hr.2.1, hs, rfl, hr.2.2.1, hr.2.2.2.1, hr.2.2.2.2⟩ _ rfl _ rfl
end Go.Proofs.Ytehcpjodkadfnaa
/- The law ChangeOne: WHATEVER THE INPUT it tells true, it never panics, and the input reads as it did: the row, out of ChangeOne_calls. -/
set_option linter.unusedVariables false
set_option linter.unusedSimpArgs false
namespace Go.Proofs.Ytehcpjodkadfnaa.changeOne
open Go.ChangeShapes Go.WideShapes Go.ChangeAt Go.RowKit Go.Joins
open Go.ChangeMaps (open_string shut_string)
theorem own : ownKnob Try.prog.godebug = none := by kernel_rfl
theorem laidOut : laidOutB Try.prog = true := by kernel_rfl
set_option maxRecDepth 100000 in
theorem lifted (os : Os) (started : os.Started) (H : Type) (enc : TypeId × Value → H) :
    ReturnsInHanded {} Try.checked os 3 .any (Rows.changeOneSpec.pre6 enc Try.prog Try.f3 Rows.changeOneRow.domain false) (Rows.changeOneSpec.post enc Try.prog Try.f3 false true false false) := by
  refine returnsInHanded_of_change_sized (C := Try.checked) own started (by kernel_rfl) Try.func3
    (ChangeSpec.witness6 (enc := enc) (C := Try.checked) false ⟨#[], #[.slice none 0 0, .agg #[.int .i64 0, .string ByteArray.empty, .string ByteArray.empty, .int .i64 0, .int .i64 0, .int .i64 0, .int .u64 0, .string ByteArray.empty, .slice none 0 0]], []⟩ 8 (by kernel_rfl) (by kernel_rfl) (by kernel_rfl) (by kernel_rfl)) ?_
  intro W base args ds gs before hval0 hW hcnd hsz0 _
  have hval : ∀ (j : Nat) t v, Try.f3.params[j]? = some t → args[j]? = some v → Value.okWide Try.prog W .any base t v := hval0
  have hW' := hW
  obtain ⟨p, q, hA0, hV, rfl, hfz, hnd⟩ := hW
  have hA : DataW.TrodAll enc Try.prog W 0 (fun _ => true) true Try.f3.params.toList args.toList ds p := hA0
  rw [Try.params3] at hA hval
  obtain ⟨v0, vs0, d0, ds0, p0, q0, hargs, rfl, rfl, h0, r0⟩ := trodAll_cons hA
  obtain ⟨v1, vs1, d1, ds1, p1, q1, rfl, rfl, rfl, h1, r1⟩ := trodAll_cons r0
  obtain ⟨rfl, rfl, rfl⟩ := trodAll_nil r1
  obtain rfl : args = #[v0, v1] := by cases args; simp_all
  obtain ⟨rfl, rfl⟩ := trodVars_none hV
  have k0 := h0
  have lt0 : ∀ x ∈ p0, x.block < W.heap.size := by obtain ⟨m, hm⟩ := k0; exact DataW.trod_lt m _ _ _ hm
  obtain ⟨a0, c0, l0, rfl, e0, f0, g0, s0, z0⟩ := open_fldsz (hval 0 22 v0 rfl rfl) h0
  replace z0 := z0 (SzT.of hsz0 (j := 0) rfl rfl)
  have k1 := h1
  have lt1 : ∀ x ∈ p1, x.block < W.heap.size := by obtain ⟨m, hm⟩ := k1; exact DataW.trod_lt m _ _ _ hm
  obtain ⟨a1, b1, c1, rfl, r1, z1⟩ := open_chg (hval 1 30 v1 rfl rfl) h1
  replace z1 := z1 (SzT.of hsz0 (j := 1) rfl rfl)
  clear hA0 hval0 hsz0
  refine (ChangeOne_row a0 c0 l0 a1 b1 c1 W g0 e0 z0 r1 z1).mono fun e W' ⟨he, bel⟩ => ?_
  subst he
  exact ⟨_, rfl, _, _, _, [], _, [], hW', trodAll_mk1 (shut_bool Try.underlying4 _), (trodAll_cons_mk (Below.trod laidOut (by kernel_rfl) (of_decide_eq_true (by kernel_rfl)) k0 bel lt0) (trodAll_cons_mk (Below.trod laidOut (by kernel_rfl) (of_decide_eq_true (by kernel_rfl)) k1 bel lt1) trodAll_mk0)), rfl, bel.frame _, fun h => by cases h⟩
theorem over : Rows.changeOneRow.holds Try.pinned (OpenSpec.ofChange Rows.changeOneSpec) :=
  OpenClaim.holds_of_wide 3 Try.f3 rfl rfl rfl rfl rfl rfl rfl ⟨rfl, rfl, rfl, rfl, rfl⟩ rfl rfl rfl rfl rfl (by kernel_rfl) Try.func3 (by kernel_rfl)
    (of_decide_eq_true (by kernel_rfl)) (by unfold Func.isWrapper; first | (rw [if_pos (by decide +kernel)]; kernel_rfl) | (rw [if_neg (by decide +kernel)]; exact ⟨rfl, rfl⟩))
    (fun os started H enc _ => lifted os started H enc)
theorem proved : Rows.ChangeOneSaid := over
end Go.Proofs.Ytehcpjodkadfnaa.changeOne
namespace Go.Proofs.Ytehcpjodkadfnaa
/-- The row, under a short name, for the claim. -/
theorem changeOne_holds : Rows.ChangeOneSaid := changeOne.proved
end Go.Proofs.Ytehcpjodkadfnaa
