/- Merged out of: Oc. -/
import Derived.Test.YtehcpjodkadfnaaVf
/- Layer 8 of the heap, changes: what the document makes of a change, where it cannot be. -/
set_option linter.unusedSimpArgs false
set_option linter.unusedVariables false
set_option maxRecDepth 100000
namespace Go.Proofs.Ytehcpjodkadfnaa
open Go.RowKit Go.Lib

set_option maxHeartbeats 1000000 in
theorem rMake_form (l : List Fd) (c : Ch) (m : Nat) (hm : l.length = m) (hl : m ≤ 9223372036854775807) (A : Option Addr) (cA : Nat) (Q : Option Addr) (n qc : Nat) (hn : c.q.length = n) (hn1 : n ≤ 4398046511104) (x0 : 0 ≤ c.d.b) (x1 : c.d.b < 18446744073709551616) (sl : FdS l) (sg : c.g.s.size ≤ 9223372036854775807) (w : World) (hA : Rd w A (cellsF l)) (RQ : Rd w Q (cellsI c.q)) (hr : rightF l = false) :
    Calls Try.prog 11 #[.slice A m cA, .agg #[.int .i64 c.op, .string c.s, .string c.g.s, .int .i64 c.g.k, .int .i64 c.g.l, .int .i64 c.d.k, .int .u64 c.d.b, .string c.d.t, .slice Q n qc]] w fun e w' => RkP Tb.z 60 w e w' := by
  have bb1 := below_new (w := w) (.cells #[.int .i64 c.op, .string c.s, .string c.g.s, .int .i64 c.g.k, .int .i64 c.g.l, .int .i64 c.d.k, .int .u64 c.d.b, .string c.d.t, .slice Q n qc] 30)
  have bb2 := below_new (w := w.alloc (.cells #[.int .i64 c.op, .string c.s, .string c.g.s, .int .i64 c.g.k, .int .i64 c.g.l, .int .i64 c.d.k, .int .u64 c.d.b, .string c.d.t, .slice Q n qc] 30)) (.cells #[.slice none 0 0, .slice none 0 0, .slice none 0 0] 43)
  have bb3 := below_new (w := (w.alloc (.cells #[.int .i64 c.op, .string c.s, .string c.g.s, .int .i64 c.g.k, .int .i64 c.g.l, .int .i64 c.d.k, .int .u64 c.d.b, .string c.d.t, .slice Q n qc] 30)).alloc (.cells #[.slice none 0 0, .slice none 0 0, .slice none 0 0] 43)) (.cells #[.slice none 0 0, .slice none 0 0, .slice none 0 0] 43)
  have C : CBox _ _ c (.slice Q n qc) 30 := ((OBox.new w (chL c (.slice Q n qc)) 30).below bb2).below bb3
  have N := (OBox.new (w.alloc (.cells #[.int .i64 c.op, .string c.s, .string c.g.s, .int .i64 c.g.k, .int .i64 c.g.l, .int .i64 c.d.k, .int .u64 c.d.b, .string c.d.t, .slice Q n qc] 30)) [.slice none 0 0, .slice none 0 0, .slice none 0 0] 43).below bb3
  have Z := OBox.new ((w.alloc (.cells #[.int .i64 c.op, .string c.s, .string c.g.s, .int .i64 c.g.k, .int .i64 c.g.l, .int .i64 c.d.k, .int .u64 c.d.b, .string c.d.t, .slice Q n qc] 30)).alloc (.cells #[.slice none 0 0, .slice none 0 0, .slice none 0 0] 43)) [.slice none 0 0, .slice none 0 0, .slice none 0 0] 43
  rw [World.size_alloc] at N
  rw [World.size_alloc, World.size_alloc] at Z
  have HB := below_seq (below_seq bb1 bb2) bb3
  have hA1 := hA.below HB
  obtain ⟨a0, a1, a2, a3, a4, a5, a6, a7, a8⟩ := C.c9
  obtain ⟨n1, n2, n3, o1, o2, o3⟩ := N.f3
  obtain ⟨i1, i2, i3, j1, j2, j3⟩ := Z.f3
  obtain ⟨z, hz⟩ : ∃ z, findZ l c.s = z := ⟨_, rfl⟩
  have HZ := Lib.hid hz
  have HM := Lib.hid hm
  have HN := Lib.hid hn
  clear bb1 bb2 bb3
  have HR := Lib.hid hr
  clear hr hz hm hn
  go_enter Try.func11, Try.ntmps11
  go_wp2_with (first
    | (go_at_call 19; refine (rFind_m A cA m l HM.out c.s z HZ.out _ hA1 hl).mono ?_; rintro e w' ⟨rfl, rfl⟩)
    | (go_at_call 17; refine (rRight_m A cA m l HM.out false HR.out _ hA1 hl sl).mono ?_; rintro e W0 ⟨rfl, hb⟩; replace HB := HB.trans (hb.mono HB.size); replace hA1 := hA1.below hb; replace C := C.below hb; replace N := N.below hb; replace Z := Z.below hb; clear hb a0 a1 a2 a3 a4 a5 a6 a7 a8 n1 n2 n3 o1 o2 o3 i1 i2 i3 j1 j2 j3; obtain ⟨a0, a1, a2, a3, a4, a5, a6, a7, a8⟩ := C.c9; obtain ⟨n1, n2, n3, o1, o2, o3⟩ := N.f3; obtain ⟨i1, i2, i3, j1, j2, j3⟩ := Z.f3))
  refine bodyPost_ret (v := .tuple #[.agg #[.slice none 0 0, .slice none 0 0, .slice none 0 0], .int .i64 60]) (by simp [results, Try.results11, go_sem, *]; done) rfl ⟨_, _, _, _, _, _, _, _, _, rfl, TVP.z _ _, ?_⟩
  exact ((HB.setCell (by show w.heap.size ≤ w.heap.size + 1; omega) _).setCell (by show w.heap.size ≤ w.heap.size + 1; omega) _).setCell (by show w.heap.size ≤ w.heap.size + 1; omega) _
set_option maxHeartbeats 1000000 in
theorem rMake_low (l : List Fd) (c : Ch) (m : Nat) (hm : l.length = m) (hl : m ≤ 9223372036854775807) (A : Option Addr) (cA : Nat) (Q : Option Addr) (n qc : Nat) (hn : c.q.length = n) (hn1 : n ≤ 4398046511104) (x0 : 0 ≤ c.d.b) (x1 : c.d.b < 18446744073709551616) (sl : FdS l) (sg : c.g.s.size ≤ 9223372036854775807) (w : World) (hA : Rd w A (cellsF l)) (RQ : Rd w Q (cellsI c.q)) (hr : rightF l = true) (ho : c.op < 1) :
    Calls Try.prog 11 #[.slice A m cA, .agg #[.int .i64 c.op, .string c.s, .string c.g.s, .int .i64 c.g.k, .int .i64 c.g.l, .int .i64 c.d.k, .int .u64 c.d.b, .string c.d.t, .slice Q n qc]] w fun e w' => RkP Tb.z 80 w e w' := by
  have bb1 := below_new (w := w) (.cells #[.int .i64 c.op, .string c.s, .string c.g.s, .int .i64 c.g.k, .int .i64 c.g.l, .int .i64 c.d.k, .int .u64 c.d.b, .string c.d.t, .slice Q n qc] 30)
  have bb2 := below_new (w := w.alloc (.cells #[.int .i64 c.op, .string c.s, .string c.g.s, .int .i64 c.g.k, .int .i64 c.g.l, .int .i64 c.d.k, .int .u64 c.d.b, .string c.d.t, .slice Q n qc] 30)) (.cells #[.slice none 0 0, .slice none 0 0, .slice none 0 0] 43)
  have bb3 := below_new (w := (w.alloc (.cells #[.int .i64 c.op, .string c.s, .string c.g.s, .int .i64 c.g.k, .int .i64 c.g.l, .int .i64 c.d.k, .int .u64 c.d.b, .string c.d.t, .slice Q n qc] 30)).alloc (.cells #[.slice none 0 0, .slice none 0 0, .slice none 0 0] 43)) (.cells #[.slice none 0 0, .slice none 0 0, .slice none 0 0] 43)
  have C : CBox _ _ c (.slice Q n qc) 30 := ((OBox.new w (chL c (.slice Q n qc)) 30).below bb2).below bb3
  have N := (OBox.new (w.alloc (.cells #[.int .i64 c.op, .string c.s, .string c.g.s, .int .i64 c.g.k, .int .i64 c.g.l, .int .i64 c.d.k, .int .u64 c.d.b, .string c.d.t, .slice Q n qc] 30)) [.slice none 0 0, .slice none 0 0, .slice none 0 0] 43).below bb3
  have Z := OBox.new ((w.alloc (.cells #[.int .i64 c.op, .string c.s, .string c.g.s, .int .i64 c.g.k, .int .i64 c.g.l, .int .i64 c.d.k, .int .u64 c.d.b, .string c.d.t, .slice Q n qc] 30)).alloc (.cells #[.slice none 0 0, .slice none 0 0, .slice none 0 0] 43)) [.slice none 0 0, .slice none 0 0, .slice none 0 0] 43
  rw [World.size_alloc] at N
  rw [World.size_alloc, World.size_alloc] at Z
  have HB := below_seq (below_seq bb1 bb2) bb3
  have hA1 := hA.below HB
  obtain ⟨a0, a1, a2, a3, a4, a5, a6, a7, a8⟩ := C.c9
  obtain ⟨n1, n2, n3, o1, o2, o3⟩ := N.f3
  obtain ⟨i1, i2, i3, j1, j2, j3⟩ := Z.f3
  obtain ⟨z, hz⟩ : ∃ z, findZ l c.s = z := ⟨_, rfl⟩
  have HZ := Lib.hid hz
  have HM := Lib.hid hm
  have HN := Lib.hid hn
  clear bb1 bb2 bb3
  have y1 : decide (c.op < 1) = true := by simpa using ho
  clear ho
  have HR := Lib.hid hr
  clear hr hz hm hn
  go_enter Try.func11, Try.ntmps11
  go_wp2_with (first
    | (go_at_call 19; refine (rFind_m A cA m l HM.out c.s z HZ.out _ hA1 hl).mono ?_; rintro e w' ⟨rfl, rfl⟩)
    | (go_at_call 17; refine (rRight_m A cA m l HM.out true HR.out _ hA1 hl sl).mono ?_; rintro e W0 ⟨rfl, hb⟩; replace HB := HB.trans (hb.mono HB.size); replace hA1 := hA1.below hb; replace C := C.below hb; replace N := N.below hb; replace Z := Z.below hb; clear hb a0 a1 a2 a3 a4 a5 a6 a7 a8 n1 n2 n3 o1 o2 o3 i1 i2 i3 j1 j2 j3; obtain ⟨a0, a1, a2, a3, a4, a5, a6, a7, a8⟩ := C.c9; obtain ⟨n1, n2, n3, o1, o2, o3⟩ := N.f3; obtain ⟨i1, i2, i3, j1, j2, j3⟩ := Z.f3))
  refine bodyPost_ret (v := .tuple #[.agg #[.slice none 0 0, .slice none 0 0, .slice none 0 0], .int .i64 80]) (by simp [results, Try.results11, go_sem, *]; done) rfl ⟨_, _, _, _, _, _, _, _, _, rfl, TVP.z _ _, ?_⟩
  exact ((HB.setCell (by show w.heap.size ≤ w.heap.size + 1; omega) _).setCell (by show w.heap.size ≤ w.heap.size + 1; omega) _).setCell (by show w.heap.size ≤ w.heap.size + 1; omega) _
set_option maxHeartbeats 1000000 in
theorem rMake_high (l : List Fd) (c : Ch) (m : Nat) (hm : l.length = m) (hl : m ≤ 9223372036854775807) (A : Option Addr) (cA : Nat) (Q : Option Addr) (n qc : Nat) (hn : c.q.length = n) (hn1 : n ≤ 4398046511104) (x0 : 0 ≤ c.d.b) (x1 : c.d.b < 18446744073709551616) (sl : FdS l) (sg : c.g.s.size ≤ 9223372036854775807) (w : World) (hA : Rd w A (cellsF l)) (RQ : Rd w Q (cellsI c.q)) (hr : rightF l = true) (ho : 5 < c.op) :
    Calls Try.prog 11 #[.slice A m cA, .agg #[.int .i64 c.op, .string c.s, .string c.g.s, .int .i64 c.g.k, .int .i64 c.g.l, .int .i64 c.d.k, .int .u64 c.d.b, .string c.d.t, .slice Q n qc]] w fun e w' => RkP Tb.z 80 w e w' := by
  have bb1 := below_new (w := w) (.cells #[.int .i64 c.op, .string c.s, .string c.g.s, .int .i64 c.g.k, .int .i64 c.g.l, .int .i64 c.d.k, .int .u64 c.d.b, .string c.d.t, .slice Q n qc] 30)
  have bb2 := below_new (w := w.alloc (.cells #[.int .i64 c.op, .string c.s, .string c.g.s, .int .i64 c.g.k, .int .i64 c.g.l, .int .i64 c.d.k, .int .u64 c.d.b, .string c.d.t, .slice Q n qc] 30)) (.cells #[.slice none 0 0, .slice none 0 0, .slice none 0 0] 43)
  have bb3 := below_new (w := (w.alloc (.cells #[.int .i64 c.op, .string c.s, .string c.g.s, .int .i64 c.g.k, .int .i64 c.g.l, .int .i64 c.d.k, .int .u64 c.d.b, .string c.d.t, .slice Q n qc] 30)).alloc (.cells #[.slice none 0 0, .slice none 0 0, .slice none 0 0] 43)) (.cells #[.slice none 0 0, .slice none 0 0, .slice none 0 0] 43)
  have C : CBox _ _ c (.slice Q n qc) 30 := ((OBox.new w (chL c (.slice Q n qc)) 30).below bb2).below bb3
  have N := (OBox.new (w.alloc (.cells #[.int .i64 c.op, .string c.s, .string c.g.s, .int .i64 c.g.k, .int .i64 c.g.l, .int .i64 c.d.k, .int .u64 c.d.b, .string c.d.t, .slice Q n qc] 30)) [.slice none 0 0, .slice none 0 0, .slice none 0 0] 43).below bb3
  have Z := OBox.new ((w.alloc (.cells #[.int .i64 c.op, .string c.s, .string c.g.s, .int .i64 c.g.k, .int .i64 c.g.l, .int .i64 c.d.k, .int .u64 c.d.b, .string c.d.t, .slice Q n qc] 30)).alloc (.cells #[.slice none 0 0, .slice none 0 0, .slice none 0 0] 43)) [.slice none 0 0, .slice none 0 0, .slice none 0 0] 43
  rw [World.size_alloc] at N
  rw [World.size_alloc, World.size_alloc] at Z
  have HB := below_seq (below_seq bb1 bb2) bb3
  have hA1 := hA.below HB
  obtain ⟨a0, a1, a2, a3, a4, a5, a6, a7, a8⟩ := C.c9
  obtain ⟨n1, n2, n3, o1, o2, o3⟩ := N.f3
  obtain ⟨i1, i2, i3, j1, j2, j3⟩ := Z.f3
  obtain ⟨z, hz⟩ : ∃ z, findZ l c.s = z := ⟨_, rfl⟩
  have HZ := Lib.hid hz
  have HM := Lib.hid hm
  have HN := Lib.hid hn
  clear bb1 bb2 bb3
  have y1 : decide (c.op < 1) = false := by simp; omega
  have y2 : decide (5 < c.op) = true := by simpa using ho
  clear ho
  have HR := Lib.hid hr
  clear hr hz hm hn
  go_enter Try.func11, Try.ntmps11
  go_wp2_with (first
    | (go_at_call 19; refine (rFind_m A cA m l HM.out c.s z HZ.out _ hA1 hl).mono ?_; rintro e w' ⟨rfl, rfl⟩)
    | (go_at_call 17; refine (rRight_m A cA m l HM.out true HR.out _ hA1 hl sl).mono ?_; rintro e W0 ⟨rfl, hb⟩; replace HB := HB.trans (hb.mono HB.size); replace hA1 := hA1.below hb; replace C := C.below hb; replace N := N.below hb; replace Z := Z.below hb; clear hb a0 a1 a2 a3 a4 a5 a6 a7 a8 n1 n2 n3 o1 o2 o3 i1 i2 i3 j1 j2 j3; obtain ⟨a0, a1, a2, a3, a4, a5, a6, a7, a8⟩ := C.c9; obtain ⟨n1, n2, n3, o1, o2, o3⟩ := N.f3; obtain ⟨i1, i2, i3, j1, j2, j3⟩ := Z.f3))
  refine bodyPost_ret (v := .tuple #[.agg #[.slice none 0 0, .slice none 0 0, .slice none 0 0], .int .i64 80]) (by simp [results, Try.results11, go_sem, *]; done) rfl ⟨_, _, _, _, _, _, _, _, _, rfl, TVP.z _ _, ?_⟩
  exact ((HB.setCell (by show w.heap.size ≤ w.heap.size + 1; omega) _).setCell (by show w.heap.size ≤ w.heap.size + 1; omega) _).setCell (by show w.heap.size ≤ w.heap.size + 1; omega) _
set_option maxHeartbeats 1000000 in
theorem rMake_none (l : List Fd) (c : Ch) (m : Nat) (hm : l.length = m) (hl : m ≤ 9223372036854775807) (A : Option Addr) (cA : Nat) (Q : Option Addr) (n qc : Nat) (hn : c.q.length = n) (hn1 : n ≤ 4398046511104) (x0 : 0 ≤ c.d.b) (x1 : c.d.b < 18446744073709551616) (sl : FdS l) (sg : c.g.s.size ≤ 9223372036854775807) (w : World) (hA : Rd w A (cellsF l)) (RQ : Rd w Q (cellsI c.q)) (hr : rightF l = true) (ho : 2 ≤ c.op ∧ c.op ≤ 4) (hf : findZ l c.s < 0) :
    Calls Try.prog 11 #[.slice A m cA, .agg #[.int .i64 c.op, .string c.s, .string c.g.s, .int .i64 c.g.k, .int .i64 c.g.l, .int .i64 c.d.k, .int .u64 c.d.b, .string c.d.t, .slice Q n qc]] w fun e w' => RkP Tb.z 61 w e w' := by
  have bb1 := below_new (w := w) (.cells #[.int .i64 c.op, .string c.s, .string c.g.s, .int .i64 c.g.k, .int .i64 c.g.l, .int .i64 c.d.k, .int .u64 c.d.b, .string c.d.t, .slice Q n qc] 30)
  have bb2 := below_new (w := w.alloc (.cells #[.int .i64 c.op, .string c.s, .string c.g.s, .int .i64 c.g.k, .int .i64 c.g.l, .int .i64 c.d.k, .int .u64 c.d.b, .string c.d.t, .slice Q n qc] 30)) (.cells #[.slice none 0 0, .slice none 0 0, .slice none 0 0] 43)
  have bb3 := below_new (w := (w.alloc (.cells #[.int .i64 c.op, .string c.s, .string c.g.s, .int .i64 c.g.k, .int .i64 c.g.l, .int .i64 c.d.k, .int .u64 c.d.b, .string c.d.t, .slice Q n qc] 30)).alloc (.cells #[.slice none 0 0, .slice none 0 0, .slice none 0 0] 43)) (.cells #[.slice none 0 0, .slice none 0 0, .slice none 0 0] 43)
  have C : CBox _ _ c (.slice Q n qc) 30 := ((OBox.new w (chL c (.slice Q n qc)) 30).below bb2).below bb3
  have N := (OBox.new (w.alloc (.cells #[.int .i64 c.op, .string c.s, .string c.g.s, .int .i64 c.g.k, .int .i64 c.g.l, .int .i64 c.d.k, .int .u64 c.d.b, .string c.d.t, .slice Q n qc] 30)) [.slice none 0 0, .slice none 0 0, .slice none 0 0] 43).below bb3
  have Z := OBox.new ((w.alloc (.cells #[.int .i64 c.op, .string c.s, .string c.g.s, .int .i64 c.g.k, .int .i64 c.g.l, .int .i64 c.d.k, .int .u64 c.d.b, .string c.d.t, .slice Q n qc] 30)).alloc (.cells #[.slice none 0 0, .slice none 0 0, .slice none 0 0] 43)) [.slice none 0 0, .slice none 0 0, .slice none 0 0] 43
  rw [World.size_alloc] at N
  rw [World.size_alloc, World.size_alloc] at Z
  have HB := below_seq (below_seq bb1 bb2) bb3
  have hA1 := hA.below HB
  obtain ⟨a0, a1, a2, a3, a4, a5, a6, a7, a8⟩ := C.c9
  obtain ⟨n1, n2, n3, o1, o2, o3⟩ := N.f3
  obtain ⟨i1, i2, i3, j1, j2, j3⟩ := Z.f3
  obtain ⟨z, hz⟩ : ∃ z, findZ l c.s = z := ⟨_, rfl⟩
  have HZ := Lib.hid hz
  have HM := Lib.hid hm
  have HN := Lib.hid hn
  clear bb1 bb2 bb3
  have y1 : decide (c.op < 1) = false := by simp; omega
  have y2 : decide (5 < c.op) = false := by simp; omega
  have y3 : decide (2 ≤ c.op) = true := by simp; omega
  have y4 : decide (c.op ≤ 4) = true := by simp; omega
  have y5 : decide (z < 0) = true := by rw [hz] at hf; simpa using hf
  clear ho hf
  have HR := Lib.hid hr
  clear hr hz hm hn
  go_enter Try.func11, Try.ntmps11
  go_wp2_with (first
    | (go_at_call 19; refine (rFind_m A cA m l HM.out c.s z HZ.out _ hA1 hl).mono ?_; rintro e w' ⟨rfl, rfl⟩)
    | (go_at_call 17; refine (rRight_m A cA m l HM.out true HR.out _ hA1 hl sl).mono ?_; rintro e W0 ⟨rfl, hb⟩; replace HB := HB.trans (hb.mono HB.size); replace hA1 := hA1.below hb; replace C := C.below hb; replace N := N.below hb; replace Z := Z.below hb; clear hb a0 a1 a2 a3 a4 a5 a6 a7 a8 n1 n2 n3 o1 o2 o3 i1 i2 i3 j1 j2 j3; obtain ⟨a0, a1, a2, a3, a4, a5, a6, a7, a8⟩ := C.c9; obtain ⟨n1, n2, n3, o1, o2, o3⟩ := N.f3; obtain ⟨i1, i2, i3, j1, j2, j3⟩ := Z.f3))
  refine bodyPost_ret (v := .tuple #[.agg #[.slice none 0 0, .slice none 0 0, .slice none 0 0], .int .i64 61]) (by simp [results, Try.results11, go_sem, *]; done) rfl ⟨_, _, _, _, _, _, _, _, _, rfl, TVP.z _ _, ?_⟩
  exact ((HB.setCell (by show w.heap.size ≤ w.heap.size + 1; omega) _).setCell (by show w.heap.size ≤ w.heap.size + 1; omega) _).setCell (by show w.heap.size ≤ w.heap.size + 1; omega) _
end Go.Proofs.Ytehcpjodkadfnaa
