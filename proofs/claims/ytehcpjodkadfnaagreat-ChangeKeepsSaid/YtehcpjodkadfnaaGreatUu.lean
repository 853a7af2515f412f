/- Merged out of: Ni Ns. -/
import Derived.Test.YtehcpjodkadfnaaGreatUt
import Derived.Shelf.SortM.Plain
import Derived.Shelf.SortM.SortNone
import Derived.Test.YtehcpjodkadfnaaGreatProg
/- Layer 8 of the heap, changes: the change of a field that is named. -/
set_option linter.unusedSimpArgs false
set_option linter.unusedVariables false
set_option maxRecDepth 100000
namespace Go.Proofs.YtehcpjodkadfnaaGreat
open Go.RowKit Go.Lib

theorem named_func (fn : Fn) (first cap : Array Value) (w : World) : Calls Tryz.prog 35 #[.func fn first cap] w fun e w' => e = .returned (.func (.func 63) #[] #[.pointer (some ⟨w.heap.size, 0, none⟩)]) ∧ w' = w.alloc (.cells #[.func fn first cap] 80) := by
  have hmf : ∀ (fn : Fn) (first cap : Array Value) (w : World), (Instr.makeFunc fn first cap).run Tryz.prog w = .ok (.func fn first cap) w := fun _ _ _ _ => rfl
  go_enter Tryz.func35, Tryz.ntmps35
  go_wp2
  go_ret
  exact ⟨rfl, rfl⟩
set_option maxHeartbeats 4000000 in
theorem named_no (l : List Fd) (c : Ch) (m : Nat) (hm : l.length = m) (h16 : m ≤ 16) (B : Option Addr) (d b1 b2 : Nat) (v2 v3 qv : Value) (w : World) (h1 : b1 ≤ b2) (h2 : b2 ≤ w.heap.size) (R1 : RdB b1 w B (cellsF l)) (own2 : w.ownsRow b1 29 3 v2 m (cellsF l)) (lt2 : OwnLt b2 v2) (own3 : w.ownsRow b2 61 4 v3 m (cellsM (kM m))) (P : Nat → Prop) (hP1 : ∀ ad, B = some ad → P ad.block) (hP2 : ∀ g, v2.ownBlock = some g → P g) (hP3 : ∀ g, v3.ownBlock = some g → P g) (hPn : ∀ g, w.heap.size ≤ g → P g) (bp : Nat) (F : Value) (hfn : w.cell? ⟨bp, 0, none⟩ = some F) (hz : findZ l c.s < 0) :
    Calls Tryz.prog 63 #[.agg #[.slice B m d, v2, v3], .agg #[.int .i64 c.op, .string c.s, .string c.g.s, .int .i64 c.g.k, .int .i64 c.g.l, .int .i64 c.d.k, .int .u64 c.d.b, .string c.d.t, qv], .pointer (some ⟨bp, 0, none⟩)] w fun e w' => StepP v2.ownBlock v3.ownBlock P Tb.z 61 w e w' := by
  obtain ⟨z, hzz⟩ : ∃ z, findZ l c.s = z := ⟨_, rfl⟩
  rw [hzz] at hz
  have hd : decide (z < 0) = true := by simpa using hz
  obtain ⟨B2, d2, rfl, hd2, hmx2, rd2⟩ := own_rd own2
  obtain ⟨B3, d3, rfl, hd3, hmx3, rd3⟩ := own_rd own3
  have bb1 := below_new (w := w) (.cells #[.slice B m d, .slice B2 m d2, .slice B3 m d3] 36)
  have bb2 := below_new (w := w.alloc (.cells #[.slice B m d, .slice B2 m d2, .slice B3 m d3] 36)) (.cells #[.int .i64 c.op, .string c.s, .string c.g.s, .int .i64 c.g.k, .int .i64 c.g.l, .int .i64 c.d.k, .int .u64 c.d.b, .string c.d.t, qv] 57)
  have bb3 := below_new (w := (w.alloc (.cells #[.slice B m d, .slice B2 m d2, .slice B3 m d3] 36)).alloc (.cells #[.int .i64 c.op, .string c.s, .string c.g.s, .int .i64 c.g.k, .int .i64 c.g.l, .int .i64 c.d.k, .int .u64 c.d.b, .string c.d.t, qv] 57)) (.cells #[.slice none 0 0, .slice none 0 0, .slice none 0 0] 36)
  have T1 := ((OBox.new w [.slice B m d, .slice B2 m d2, .slice B3 m d3] 36).below bb2).below bb3
  have C1 : CBox _ _ c qv 57 := (OBox.new (w.alloc (.cells #[.slice B m d, .slice B2 m d2, .slice B3 m d3] 36)) (chL c qv) 57).below bb3
  have N1 := OBox.new ((w.alloc (.cells #[.slice B m d, .slice B2 m d2, .slice B3 m d3] 36)).alloc (.cells #[.int .i64 c.op, .string c.s, .string c.g.s, .int .i64 c.g.k, .int .i64 c.g.l, .int .i64 c.d.k, .int .u64 c.d.b, .string c.d.t, qv] 57)) [.slice none 0 0, .slice none 0 0, .slice none 0 0] 36
  have HB := below_seq (below_seq bb1 bb2) bb3
  rw [World.size_alloc] at C1
  rw [World.size_alloc, World.size_alloc] at N1
  obtain ⟨i1, i2, i3, j1, j2, j3⟩ := T1.f3
  obtain ⟨n1, n2, n3, o1, o2, o3⟩ := N1.f3
  obtain ⟨a0, a1, a2, a3, a4, a5, a6, a7, a8⟩ := C1.c9
  have HM := Lib.hid hm
  have HP1 := Lib.hid hP1
  have HP2 := Lib.hid hP2
  have HP3 := Lib.hid hP3
  have HPN := Lib.hid hPn
  clear hm bb1 bb2 bb3 hP1 hP2 hP3 hPn
  have HZ := Lib.hid hzz
  have RO := R1.rd.below HB
  clear hzz hz own2 own3 R1 rd2 rd3
  go_enter Tryz.func63, Tryz.ntmps63
  go_wp2_with (go_at_call 45; refine (Find_m B d m l HM.out c.s z HZ.out _ RO (by omega)).mono ?_; rintro e wM ⟨rfl, hb⟩; replace HB := HB.trans (hb.mono HB.size); replace T1 := T1.below hb; replace C1 := C1.below hb; replace N1 := N1.below hb; clear hb i1 i2 i3 j1 j2 j3 n1 n2 n3 o1 o2 o3 a0 a1 a2 a3 a4 a5 a6 a7 a8; obtain ⟨i1, i2, i3, j1, j2, j3⟩ := T1.f3; obtain ⟨n1, n2, n3, o1, o2, o3⟩ := N1.f3; obtain ⟨a0, a1, a2, a3, a4, a5, a6, a7, a8⟩ := C1.c9; have hfn2 := cell_below (B := 0) HB hfn)
  refine bodyPost_ret (v := .tuple #[.agg #[.slice B m d, .slice B2 m d2, .slice B3 m d3], .int .i64 61]) (by simp [results, Tryz.results63, go_sem, *]; done) rfl ⟨_, _, _, _, _, _, _, _, _, rfl, fun h => absurd h (by decide), Only.of ?_⟩
  (repeat (first | exact HB | refine Below.setCell ?_ (by dsimp only; omega) _ | refine Below.alloc ?_ (by have hs_ := HB.size; first | (simp; done) | (simp; omega) | omega) _ | apply Below.drew))
set_option maxHeartbeats 4000000 in
theorem named_drops (l : List Fd) (c : Ch) (m : Nat) (hm : l.length = m) (h16 : m ≤ 16) (B : Option Addr) (d b1 b2 : Nat) (v2 v3 qv : Value) (w : World) (h1 : b1 ≤ b2) (h2 : b2 ≤ w.heap.size) (R1 : RdB b1 w B (cellsF l)) (own2 : w.ownsRow b1 29 3 v2 m (cellsF l)) (lt2 : OwnLt b2 v2) (own3 : w.ownsRow b2 61 4 v3 m (cellsM (kM m))) (P : Nat → Prop) (hP1 : ∀ ad, B = some ad → P ad.block) (hP2 : ∀ g, v2.ownBlock = some g → P g) (hP3 : ∀ g, v3.ownBlock = some g → P g) (hPn : ∀ g, w.heap.size ≤ g → P g) (bp : Nat) (hfn : w.cell? ⟨bp, 0, none⟩ = some (.func (.func 36) #[] #[])) (k : Nat) (hz : findZ l c.s = k)  :
    Calls Tryz.prog 63 #[.agg #[.slice B m d, v2, v3], .agg #[.int .i64 c.op, .string c.s, .string c.g.s, .int .i64 c.g.k, .int .i64 c.g.l, .int .i64 c.d.k, .int .u64 c.d.b, .string c.d.t, qv], .pointer (some ⟨bp, 0, none⟩)] w fun e w' => StepP v2.ownBlock v3.ownBlock P ⟨l, l.eraseIdx k, (kM m).eraseIdx k⟩ 0 w e w' := by
  have hk : k < m := by have := findZ_ge l c.s; omega
  obtain ⟨B2, d2, rfl, hd2, hmx2, rd2⟩ := own_rd own2
  obtain ⟨B3, d3, rfl, hd3, hmx3, rd3⟩ := own_rd own3
  have bb1 := below_new (w := w) (.cells #[.slice B m d, .slice B2 m d2, .slice B3 m d3] 36)
  have bb2 := below_new (w := w.alloc (.cells #[.slice B m d, .slice B2 m d2, .slice B3 m d3] 36)) (.cells #[.int .i64 c.op, .string c.s, .string c.g.s, .int .i64 c.g.k, .int .i64 c.g.l, .int .i64 c.d.k, .int .u64 c.d.b, .string c.d.t, qv] 57)
  have bb3 := below_new (w := (w.alloc (.cells #[.slice B m d, .slice B2 m d2, .slice B3 m d3] 36)).alloc (.cells #[.int .i64 c.op, .string c.s, .string c.g.s, .int .i64 c.g.k, .int .i64 c.g.l, .int .i64 c.d.k, .int .u64 c.d.b, .string c.d.t, qv] 57)) (.cells #[.slice none 0 0, .slice none 0 0, .slice none 0 0] 36)
  have T1 := ((OBox.new w [.slice B m d, .slice B2 m d2, .slice B3 m d3] 36).below bb2).below bb3
  have C1 : CBox _ _ c qv 57 := (OBox.new (w.alloc (.cells #[.slice B m d, .slice B2 m d2, .slice B3 m d3] 36)) (chL c qv) 57).below bb3
  have N1 := OBox.new ((w.alloc (.cells #[.slice B m d, .slice B2 m d2, .slice B3 m d3] 36)).alloc (.cells #[.int .i64 c.op, .string c.s, .string c.g.s, .int .i64 c.g.k, .int .i64 c.g.l, .int .i64 c.d.k, .int .u64 c.d.b, .string c.d.t, qv] 57)) [.slice none 0 0, .slice none 0 0, .slice none 0 0] 36
  have HB := below_seq (below_seq bb1 bb2) bb3
  rw [World.size_alloc] at C1
  rw [World.size_alloc, World.size_alloc] at N1
  obtain ⟨i1, i2, i3, j1, j2, j3⟩ := T1.f3
  obtain ⟨n1, n2, n3, o1, o2, o3⟩ := N1.f3
  obtain ⟨a0, a1, a2, a3, a4, a5, a6, a7, a8⟩ := C1.c9
  have HM := Lib.hid hm
  have HP1 := Lib.hid hP1
  have HP2 := Lib.hid hP2
  have HP3 := Lib.hid hP3
  have HPN := Lib.hid hPn
  clear hm bb1 bb2 bb3 hP1 hP2 hP3 hPn
  have HZ := Lib.hid hz
  have RO := R1.rd.below HB
  have l3 := own_lt own3
  have hbl : Hid (∀ ad, B = some ad → ad.block < w.heap.size) := Lib.hid (fun ad e => by
    obtain ⟨ad', e', hlt, _⟩ := R1 (by intro e; have := congrArg List.length e; rw [cellsF_length, HM.out] at this; simp at this; omega)
    rw [e] at e'; cases e'; omega)
  have hnn : decide ((k : Int) < 0) = false := by simp
  clear hz rd2 rd3
  go_enter Tryz.func63, Tryz.ntmps63
  go_wp2_with (first
    | (go_at_call 45; refine (Find_m B d m l HM.out c.s k HZ.out _ RO (by omega)).mono ?_; rintro e wM ⟨rfl, hb⟩; replace HB := HB.trans (hb.mono HB.size); replace T1 := T1.below hb; replace C1 := C1.below hb; replace N1 := N1.below hb; clear hb i1 i2 i3 j1 j2 j3 n1 n2 n3 o1 o2 o3 a0 a1 a2 a3 a4 a5 a6 a7 a8; obtain ⟨i1, i2, i3, j1, j2, j3⟩ := T1.f3; obtain ⟨n1, n2, n3, o1, o2, o3⟩ := N1.f3; obtain ⟨a0, a1, a2, a3, a4, a5, a6, a7, a8⟩ := C1.c9; have hfn2 := cell_below (B := 0) HB hfn)
    | (go_at_call 36; refine (drops_m l c m HM.out h16 B d b1 b2 _ _ qv wM h1 (by have := HB.size; omega) (R1.below (HB.mono (Nat.le_trans h1 h2))) (own_below own2 HB) lt2 (own_below own3 HB) (fun g => (P g ∧ g < w.heap.size) ∨ wM.heap.size ≤ g) (fun ad e => .inl ⟨HP1.out ad e, hbl.out ad e⟩) (fun g hg => .inl ⟨HP2.out g hg, by have := lt2 g hg; omega⟩) (fun g hg => .inl ⟨HP3.out g hg, l3 g hg⟩) (fun g hg => .inr hg) k hk).mono ?_))
  rintro e W5 ⟨X0, y0, z0, X1, y1, z1, X2, y2, z2, rfl, hTV, hO⟩
  have HT := Lib.hid hTV
  clear hTV
  have zz := N1.lt
  have N5 := N1.only hO (by intro e; have := lt2 _ e.symm; omega) (by intro e; have := l3 _ e.symm; omega)
  clear i1 i2 i3 j1 j2 j3 n1 n2 n3 o1 o2 o3 a0 a1 a2 a3 a4 a5 a6 a7 a8
  obtain ⟨n1, n2, n3, o1, o2, o3⟩ := N5.f3
  go_wp2
  refine bodyPost_ret (v := .tuple #[.agg #[.slice X0 y0 z0, .slice X1 y1 z1, .slice X2 y2 z2], .int .i64 0]) (by simp [results, Tryz.results63, go_sem, *]; done) rfl ⟨_, _, _, _, _, _, _, _, _, rfl, fun h => ?_, ?_⟩
  · refine ((HT.out (by first | exact h | trivial)).keep (fun g hg => ?_)).mono (fun g hg => ?_)
    · have hne : g ≠ w.heap.size + 2 := by rcases hg with hg | hg <;> omega
      exact (Below.heap_setCell _ _ _ _ hne).trans ((Below.heap_setCell _ _ _ _ hne).trans (Below.heap_setCell _ _ _ _ hne))
    · rcases hg with hg | hg
      · exact hg.1
      · exact HPN.out g (by omega)
  · exact ((((Only.of HB).then hO).setCell (by show w.heap.size ≤ w.heap.size + 2; omega) _).setCell (by show w.heap.size ≤ w.heap.size + 2; omega) _).setCell (by show w.heap.size ≤ w.heap.size + 2; omega) _
set_option maxHeartbeats 4000000 in
theorem named_renames (l : List Fd) (c : Ch) (m : Nat) (hm : l.length = m) (h16 : m ≤ 16) (B : Option Addr) (d b1 b2 : Nat) (v2 v3 qv : Value) (w : World) (h1 : b1 ≤ b2) (h2 : b2 ≤ w.heap.size) (R1 : RdB b1 w B (cellsF l)) (own2 : w.ownsRow b1 29 3 v2 m (cellsF l)) (lt2 : OwnLt b2 v2) (own3 : w.ownsRow b2 61 4 v3 m (cellsM (kM m))) (P : Nat → Prop) (hP1 : ∀ ad, B = some ad → P ad.block) (hP2 : ∀ g, v2.ownBlock = some g → P g) (hP3 : ∀ g, v3.ownBlock = some g → P g) (hPn : ∀ g, w.heap.size ≤ g → P g) (bp : Nat) (hfn : w.cell? ⟨bp, 0, none⟩ = some (.func (.func 37) #[] #[])) (k : Nat) (hz : findZ l c.s = k) (f : Fd) (hf : l[k]? = some f) :
    Calls Tryz.prog 63 #[.agg #[.slice B m d, v2, v3], .agg #[.int .i64 c.op, .string c.s, .string c.g.s, .int .i64 c.g.k, .int .i64 c.g.l, .int .i64 c.d.k, .int .u64 c.d.b, .string c.d.t, qv], .pointer (some ⟨bp, 0, none⟩)] w fun e w' => StepP v2.ownBlock v3.ownBlock P ⟨l, l.set k ⟨c.g.s, f.k, f.l⟩, kM m⟩ 0 w e w' := by
  have hk : k < m := by have := findZ_ge l c.s; omega
  obtain ⟨B2, d2, rfl, hd2, hmx2, rd2⟩ := own_rd own2
  obtain ⟨B3, d3, rfl, hd3, hmx3, rd3⟩ := own_rd own3
  have bb1 := below_new (w := w) (.cells #[.slice B m d, .slice B2 m d2, .slice B3 m d3] 36)
  have bb2 := below_new (w := w.alloc (.cells #[.slice B m d, .slice B2 m d2, .slice B3 m d3] 36)) (.cells #[.int .i64 c.op, .string c.s, .string c.g.s, .int .i64 c.g.k, .int .i64 c.g.l, .int .i64 c.d.k, .int .u64 c.d.b, .string c.d.t, qv] 57)
  have bb3 := below_new (w := (w.alloc (.cells #[.slice B m d, .slice B2 m d2, .slice B3 m d3] 36)).alloc (.cells #[.int .i64 c.op, .string c.s, .string c.g.s, .int .i64 c.g.k, .int .i64 c.g.l, .int .i64 c.d.k, .int .u64 c.d.b, .string c.d.t, qv] 57)) (.cells #[.slice none 0 0, .slice none 0 0, .slice none 0 0] 36)
  have T1 := ((OBox.new w [.slice B m d, .slice B2 m d2, .slice B3 m d3] 36).below bb2).below bb3
  have C1 : CBox _ _ c qv 57 := (OBox.new (w.alloc (.cells #[.slice B m d, .slice B2 m d2, .slice B3 m d3] 36)) (chL c qv) 57).below bb3
  have N1 := OBox.new ((w.alloc (.cells #[.slice B m d, .slice B2 m d2, .slice B3 m d3] 36)).alloc (.cells #[.int .i64 c.op, .string c.s, .string c.g.s, .int .i64 c.g.k, .int .i64 c.g.l, .int .i64 c.d.k, .int .u64 c.d.b, .string c.d.t, qv] 57)) [.slice none 0 0, .slice none 0 0, .slice none 0 0] 36
  have HB := below_seq (below_seq bb1 bb2) bb3
  rw [World.size_alloc] at C1
  rw [World.size_alloc, World.size_alloc] at N1
  obtain ⟨i1, i2, i3, j1, j2, j3⟩ := T1.f3
  obtain ⟨n1, n2, n3, o1, o2, o3⟩ := N1.f3
  obtain ⟨a0, a1, a2, a3, a4, a5, a6, a7, a8⟩ := C1.c9
  have HM := Lib.hid hm
  have HP1 := Lib.hid hP1
  have HP2 := Lib.hid hP2
  have HP3 := Lib.hid hP3
  have HPN := Lib.hid hPn
  clear hm bb1 bb2 bb3 hP1 hP2 hP3 hPn
  have HZ := Lib.hid hz
  have RO := R1.rd.below HB
  have l3 := own_lt own3
  have hbl : Hid (∀ ad, B = some ad → ad.block < w.heap.size) := Lib.hid (fun ad e => by
    obtain ⟨ad', e', hlt, _⟩ := R1 (by intro e; have := congrArg List.length e; rw [cellsF_length, HM.out] at this; simp at this; omega)
    rw [e] at e'; cases e'; omega)
  have hnn : decide ((k : Int) < 0) = false := by simp
  clear hz rd2 rd3
  go_enter Tryz.func63, Tryz.ntmps63
  go_wp2_with (first
    | (go_at_call 45; refine (Find_m B d m l HM.out c.s k HZ.out _ RO (by omega)).mono ?_; rintro e wM ⟨rfl, hb⟩; replace HB := HB.trans (hb.mono HB.size); replace T1 := T1.below hb; replace C1 := C1.below hb; replace N1 := N1.below hb; clear hb i1 i2 i3 j1 j2 j3 n1 n2 n3 o1 o2 o3 a0 a1 a2 a3 a4 a5 a6 a7 a8; obtain ⟨i1, i2, i3, j1, j2, j3⟩ := T1.f3; obtain ⟨n1, n2, n3, o1, o2, o3⟩ := N1.f3; obtain ⟨a0, a1, a2, a3, a4, a5, a6, a7, a8⟩ := C1.c9; have hfn2 := cell_below (B := 0) HB hfn)
    | (go_at_call 37; refine (renames_m l c m HM.out h16 B d b1 b2 _ _ qv wM h1 (by have := HB.size; omega) (R1.below (HB.mono (Nat.le_trans h1 h2))) (own_below own2 HB) lt2 (own_below own3 HB) (fun g => (P g ∧ g < w.heap.size) ∨ wM.heap.size ≤ g) (fun ad e => .inl ⟨HP1.out ad e, hbl.out ad e⟩) (fun g hg => .inl ⟨HP2.out g hg, by have := lt2 g hg; omega⟩) (fun g hg => .inl ⟨HP3.out g hg, l3 g hg⟩) (fun g hg => .inr hg) k f hf).mono ?_))
  rintro e W5 ⟨X0, y0, z0, X1, y1, z1, X2, y2, z2, rfl, hTV, hO⟩
  have HT := Lib.hid hTV
  clear hTV
  have zz := N1.lt
  have N5 := N1.only hO (by intro e; have := lt2 _ e.symm; omega) (by intro e; have := l3 _ e.symm; omega)
  clear i1 i2 i3 j1 j2 j3 n1 n2 n3 o1 o2 o3 a0 a1 a2 a3 a4 a5 a6 a7 a8
  obtain ⟨n1, n2, n3, o1, o2, o3⟩ := N5.f3
  go_wp2
  refine bodyPost_ret (v := .tuple #[.agg #[.slice X0 y0 z0, .slice X1 y1 z1, .slice X2 y2 z2], .int .i64 0]) (by simp [results, Tryz.results63, go_sem, *]; done) rfl ⟨_, _, _, _, _, _, _, _, _, rfl, fun h => ?_, ?_⟩
  · refine ((HT.out (by first | exact h | trivial)).keep (fun g hg => ?_)).mono (fun g hg => ?_)
    · have hne : g ≠ w.heap.size + 2 := by rcases hg with hg | hg <;> omega
      exact (Below.heap_setCell _ _ _ _ hne).trans ((Below.heap_setCell _ _ _ _ hne).trans (Below.heap_setCell _ _ _ _ hne))
    · rcases hg with hg | hg
      · exact hg.1
      · exact HPN.out g (by omega)
  · exact ((((Only.of HB).then hO).setCell (by show w.heap.size ≤ w.heap.size + 2; omega) _).setCell (by show w.heap.size ≤ w.heap.size + 2; omega) _).setCell (by show w.heap.size ≤ w.heap.size + 2; omega) _
set_option maxHeartbeats 4000000 in
theorem named_recasts_yes (l : List Fd) (c : Ch) (m : Nat) (hm : l.length = m) (h16 : m ≤ 16) (B : Option Addr) (d b1 b2 : Nat) (v2 v3 qv : Value) (w : World) (h1 : b1 ≤ b2) (h2 : b2 ≤ w.heap.size) (R1 : RdB b1 w B (cellsF l)) (own2 : w.ownsRow b1 29 3 v2 m (cellsF l)) (lt2 : OwnLt b2 v2) (own3 : w.ownsRow b2 61 4 v3 m (cellsM (kM m))) (P : Nat → Prop) (hP1 : ∀ ad, B = some ad → P ad.block) (hP2 : ∀ g, v2.ownBlock = some g → P g) (hP3 : ∀ g, v3.ownBlock = some g → P g) (hPn : ∀ g, w.heap.size ≤ g → P g) (bp : Nat) (hfn : w.cell? ⟨bp, 0, none⟩ = some (.func (.func 38) #[] #[])) (k : Nat) (hz : findZ l c.s = k) (f : Fd) (hf : l[k]? = some f) (hr : castsB f.k f.l c.g.k c.g.l = true) :
    Calls Tryz.prog 63 #[.agg #[.slice B m d, v2, v3], .agg #[.int .i64 c.op, .string c.s, .string c.g.s, .int .i64 c.g.k, .int .i64 c.g.l, .int .i64 c.d.k, .int .u64 c.d.b, .string c.d.t, qv], .pointer (some ⟨bp, 0, none⟩)] w fun e w' => StepP v2.ownBlock v3.ownBlock P ⟨l, l.set k ⟨f.s, c.g.k, c.g.l⟩, kM m⟩ 0 w e w' := by
  have hk : k < m := by have := findZ_ge l c.s; omega
  obtain ⟨B2, d2, rfl, hd2, hmx2, rd2⟩ := own_rd own2
  obtain ⟨B3, d3, rfl, hd3, hmx3, rd3⟩ := own_rd own3
  have bb1 := below_new (w := w) (.cells #[.slice B m d, .slice B2 m d2, .slice B3 m d3] 36)
  have bb2 := below_new (w := w.alloc (.cells #[.slice B m d, .slice B2 m d2, .slice B3 m d3] 36)) (.cells #[.int .i64 c.op, .string c.s, .string c.g.s, .int .i64 c.g.k, .int .i64 c.g.l, .int .i64 c.d.k, .int .u64 c.d.b, .string c.d.t, qv] 57)
  have bb3 := below_new (w := (w.alloc (.cells #[.slice B m d, .slice B2 m d2, .slice B3 m d3] 36)).alloc (.cells #[.int .i64 c.op, .string c.s, .string c.g.s, .int .i64 c.g.k, .int .i64 c.g.l, .int .i64 c.d.k, .int .u64 c.d.b, .string c.d.t, qv] 57)) (.cells #[.slice none 0 0, .slice none 0 0, .slice none 0 0] 36)
  have T1 := ((OBox.new w [.slice B m d, .slice B2 m d2, .slice B3 m d3] 36).below bb2).below bb3
  have C1 : CBox _ _ c qv 57 := (OBox.new (w.alloc (.cells #[.slice B m d, .slice B2 m d2, .slice B3 m d3] 36)) (chL c qv) 57).below bb3
  have N1 := OBox.new ((w.alloc (.cells #[.slice B m d, .slice B2 m d2, .slice B3 m d3] 36)).alloc (.cells #[.int .i64 c.op, .string c.s, .string c.g.s, .int .i64 c.g.k, .int .i64 c.g.l, .int .i64 c.d.k, .int .u64 c.d.b, .string c.d.t, qv] 57)) [.slice none 0 0, .slice none 0 0, .slice none 0 0] 36
  have HB := below_seq (below_seq bb1 bb2) bb3
  rw [World.size_alloc] at C1
  rw [World.size_alloc, World.size_alloc] at N1
  obtain ⟨i1, i2, i3, j1, j2, j3⟩ := T1.f3
  obtain ⟨n1, n2, n3, o1, o2, o3⟩ := N1.f3
  obtain ⟨a0, a1, a2, a3, a4, a5, a6, a7, a8⟩ := C1.c9
  have HM := Lib.hid hm
  have HP1 := Lib.hid hP1
  have HP2 := Lib.hid hP2
  have HP3 := Lib.hid hP3
  have HPN := Lib.hid hPn
  clear hm bb1 bb2 bb3 hP1 hP2 hP3 hPn
  have HZ := Lib.hid hz
  have RO := R1.rd.below HB
  have l3 := own_lt own3
  have hbl : Hid (∀ ad, B = some ad → ad.block < w.heap.size) := Lib.hid (fun ad e => by
    obtain ⟨ad', e', hlt, _⟩ := R1 (by intro e; have := congrArg List.length e; rw [cellsF_length, HM.out] at this; simp at this; omega)
    rw [e] at e'; cases e'; omega)
  have hnn : decide ((k : Int) < 0) = false := by simp
  clear hz rd2 rd3
  go_enter Tryz.func63, Tryz.ntmps63
  go_wp2_with (first
    | (go_at_call 45; refine (Find_m B d m l HM.out c.s k HZ.out _ RO (by omega)).mono ?_; rintro e wM ⟨rfl, hb⟩; replace HB := HB.trans (hb.mono HB.size); replace T1 := T1.below hb; replace C1 := C1.below hb; replace N1 := N1.below hb; clear hb i1 i2 i3 j1 j2 j3 n1 n2 n3 o1 o2 o3 a0 a1 a2 a3 a4 a5 a6 a7 a8; obtain ⟨i1, i2, i3, j1, j2, j3⟩ := T1.f3; obtain ⟨n1, n2, n3, o1, o2, o3⟩ := N1.f3; obtain ⟨a0, a1, a2, a3, a4, a5, a6, a7, a8⟩ := C1.c9; have hfn2 := cell_below (B := 0) HB hfn)
    | (go_at_call 38; refine (recasts_yes l c m HM.out h16 B d b1 b2 _ _ qv wM h1 (by have := HB.size; omega) (R1.below (HB.mono (Nat.le_trans h1 h2))) (own_below own2 HB) lt2 (own_below own3 HB) (fun g => (P g ∧ g < w.heap.size) ∨ wM.heap.size ≤ g) (fun ad e => .inl ⟨HP1.out ad e, hbl.out ad e⟩) (fun g hg => .inl ⟨HP2.out g hg, by have := lt2 g hg; omega⟩) (fun g hg => .inl ⟨HP3.out g hg, l3 g hg⟩) (fun g hg => .inr hg) k f hf hr).mono ?_))
  rintro e W5 ⟨X0, y0, z0, X1, y1, z1, X2, y2, z2, rfl, hTV, hO⟩
  have HT := Lib.hid hTV
  clear hTV
  have zz := N1.lt
  have N5 := N1.only hO (by intro e; have := lt2 _ e.symm; omega) (by intro e; have := l3 _ e.symm; omega)
  clear i1 i2 i3 j1 j2 j3 n1 n2 n3 o1 o2 o3 a0 a1 a2 a3 a4 a5 a6 a7 a8
  obtain ⟨n1, n2, n3, o1, o2, o3⟩ := N5.f3
  go_wp2
  refine bodyPost_ret (v := .tuple #[.agg #[.slice X0 y0 z0, .slice X1 y1 z1, .slice X2 y2 z2], .int .i64 0]) (by simp [results, Tryz.results63, go_sem, *]; done) rfl ⟨_, _, _, _, _, _, _, _, _, rfl, fun h => ?_, ?_⟩
  · refine ((HT.out (by first | exact h | trivial)).keep (fun g hg => ?_)).mono (fun g hg => ?_)
    · have hne : g ≠ w.heap.size + 2 := by rcases hg with hg | hg <;> omega
      exact (Below.heap_setCell _ _ _ _ hne).trans ((Below.heap_setCell _ _ _ _ hne).trans (Below.heap_setCell _ _ _ _ hne))
    · rcases hg with hg | hg
      · exact hg.1
      · exact HPN.out g (by omega)
  · exact ((((Only.of HB).then hO).setCell (by show w.heap.size ≤ w.heap.size + 2; omega) _).setCell (by show w.heap.size ≤ w.heap.size + 2; omega) _).setCell (by show w.heap.size ≤ w.heap.size + 2; omega) _
set_option maxHeartbeats 4000000 in
theorem named_recasts_no (l : List Fd) (c : Ch) (m : Nat) (hm : l.length = m) (h16 : m ≤ 16) (B : Option Addr) (d b1 b2 : Nat) (v2 v3 qv : Value) (w : World) (h1 : b1 ≤ b2) (h2 : b2 ≤ w.heap.size) (R1 : RdB b1 w B (cellsF l)) (own2 : w.ownsRow b1 29 3 v2 m (cellsF l)) (lt2 : OwnLt b2 v2) (own3 : w.ownsRow b2 61 4 v3 m (cellsM (kM m))) (P : Nat → Prop) (hP1 : ∀ ad, B = some ad → P ad.block) (hP2 : ∀ g, v2.ownBlock = some g → P g) (hP3 : ∀ g, v3.ownBlock = some g → P g) (hPn : ∀ g, w.heap.size ≤ g → P g) (bp : Nat) (hfn : w.cell? ⟨bp, 0, none⟩ = some (.func (.func 38) #[] #[])) (k : Nat) (hz : findZ l c.s = k) (f : Fd) (hf : l[k]? = some f) (hr : castsB f.k f.l c.g.k c.g.l = false) :
    Calls Tryz.prog 63 #[.agg #[.slice B m d, v2, v3], .agg #[.int .i64 c.op, .string c.s, .string c.g.s, .int .i64 c.g.k, .int .i64 c.g.l, .int .i64 c.d.k, .int .u64 c.d.b, .string c.d.t, qv], .pointer (some ⟨bp, 0, none⟩)] w fun e w' => StepP v2.ownBlock v3.ownBlock P Tb.z 80 w e w' := by
  have hk : k < m := by have := findZ_ge l c.s; omega
  obtain ⟨B2, d2, rfl, hd2, hmx2, rd2⟩ := own_rd own2
  obtain ⟨B3, d3, rfl, hd3, hmx3, rd3⟩ := own_rd own3
  have bb1 := below_new (w := w) (.cells #[.slice B m d, .slice B2 m d2, .slice B3 m d3] 36)
  have bb2 := below_new (w := w.alloc (.cells #[.slice B m d, .slice B2 m d2, .slice B3 m d3] 36)) (.cells #[.int .i64 c.op, .string c.s, .string c.g.s, .int .i64 c.g.k, .int .i64 c.g.l, .int .i64 c.d.k, .int .u64 c.d.b, .string c.d.t, qv] 57)
  have bb3 := below_new (w := (w.alloc (.cells #[.slice B m d, .slice B2 m d2, .slice B3 m d3] 36)).alloc (.cells #[.int .i64 c.op, .string c.s, .string c.g.s, .int .i64 c.g.k, .int .i64 c.g.l, .int .i64 c.d.k, .int .u64 c.d.b, .string c.d.t, qv] 57)) (.cells #[.slice none 0 0, .slice none 0 0, .slice none 0 0] 36)
  have T1 := ((OBox.new w [.slice B m d, .slice B2 m d2, .slice B3 m d3] 36).below bb2).below bb3
  have C1 : CBox _ _ c qv 57 := (OBox.new (w.alloc (.cells #[.slice B m d, .slice B2 m d2, .slice B3 m d3] 36)) (chL c qv) 57).below bb3
  have N1 := OBox.new ((w.alloc (.cells #[.slice B m d, .slice B2 m d2, .slice B3 m d3] 36)).alloc (.cells #[.int .i64 c.op, .string c.s, .string c.g.s, .int .i64 c.g.k, .int .i64 c.g.l, .int .i64 c.d.k, .int .u64 c.d.b, .string c.d.t, qv] 57)) [.slice none 0 0, .slice none 0 0, .slice none 0 0] 36
  have HB := below_seq (below_seq bb1 bb2) bb3
  rw [World.size_alloc] at C1
  rw [World.size_alloc, World.size_alloc] at N1
  obtain ⟨i1, i2, i3, j1, j2, j3⟩ := T1.f3
  obtain ⟨n1, n2, n3, o1, o2, o3⟩ := N1.f3
  obtain ⟨a0, a1, a2, a3, a4, a5, a6, a7, a8⟩ := C1.c9
  have HM := Lib.hid hm
  have HP1 := Lib.hid hP1
  have HP2 := Lib.hid hP2
  have HP3 := Lib.hid hP3
  have HPN := Lib.hid hPn
  clear hm bb1 bb2 bb3 hP1 hP2 hP3 hPn
  have HZ := Lib.hid hz
  have RO := R1.rd.below HB
  have l3 := own_lt own3
  have hbl : Hid (∀ ad, B = some ad → ad.block < w.heap.size) := Lib.hid (fun ad e => by
    obtain ⟨ad', e', hlt, _⟩ := R1 (by intro e; have := congrArg List.length e; rw [cellsF_length, HM.out] at this; simp at this; omega)
    rw [e] at e'; cases e'; omega)
  have hnn : decide ((k : Int) < 0) = false := by simp
  clear hz rd2 rd3
  go_enter Tryz.func63, Tryz.ntmps63
  go_wp2_with (first
    | (go_at_call 45; refine (Find_m B d m l HM.out c.s k HZ.out _ RO (by omega)).mono ?_; rintro e wM ⟨rfl, hb⟩; replace HB := HB.trans (hb.mono HB.size); replace T1 := T1.below hb; replace C1 := C1.below hb; replace N1 := N1.below hb; clear hb i1 i2 i3 j1 j2 j3 n1 n2 n3 o1 o2 o3 a0 a1 a2 a3 a4 a5 a6 a7 a8; obtain ⟨i1, i2, i3, j1, j2, j3⟩ := T1.f3; obtain ⟨n1, n2, n3, o1, o2, o3⟩ := N1.f3; obtain ⟨a0, a1, a2, a3, a4, a5, a6, a7, a8⟩ := C1.c9; have hfn2 := cell_below (B := 0) HB hfn)
    | (go_at_call 38; refine (recasts_no l c m HM.out h16 B d b1 b2 _ _ qv wM h1 (by have := HB.size; omega) (R1.below (HB.mono (Nat.le_trans h1 h2))) (own_below own2 HB) lt2 (own_below own3 HB) (fun g => (P g ∧ g < w.heap.size) ∨ wM.heap.size ≤ g) (fun ad e => .inl ⟨HP1.out ad e, hbl.out ad e⟩) (fun g hg => .inl ⟨HP2.out g hg, by have := lt2 g hg; omega⟩) (fun g hg => .inl ⟨HP3.out g hg, l3 g hg⟩) (fun g hg => .inr hg) k f hf hr).mono ?_))
  rintro e W5 ⟨X0, y0, z0, X1, y1, z1, X2, y2, z2, rfl, hTV, hO⟩
  have HT := Lib.hid hTV
  clear hTV
  have zz := N1.lt
  have N5 := N1.only hO (by intro e; have := lt2 _ e.symm; omega) (by intro e; have := l3 _ e.symm; omega)
  clear i1 i2 i3 j1 j2 j3 n1 n2 n3 o1 o2 o3 a0 a1 a2 a3 a4 a5 a6 a7 a8
  obtain ⟨n1, n2, n3, o1, o2, o3⟩ := N5.f3
  go_wp2
  refine bodyPost_ret (v := .tuple #[.agg #[.slice X0 y0 z0, .slice X1 y1 z1, .slice X2 y2 z2], .int .i64 80]) (by simp [results, Tryz.results63, go_sem, *]; done) rfl ⟨_, _, _, _, _, _, _, _, _, rfl, fun h => ?_, ?_⟩
  · exact absurd h (by decide)
  · exact ((((Only.of HB).then hO).setCell (by show w.heap.size ≤ w.heap.size + 2; omega) _).setCell (by show w.heap.size ≤ w.heap.size + 2; omega) _).setCell (by show w.heap.size ≤ w.heap.size + 2; omega) _
end Go.Proofs.YtehcpjodkadfnaaGreat
/- slices.Sort at rows of numbers, by the contract that the library proves: the numbers that it asks of this program. -/
namespace Go.Proofs
open Go.Shelf
def Tryz.laysSort_ren : Go.Shelf.Ren := ⟨fun | 5 => 67 | 8 => 82 | 7 => 81 | 19 => 95 | 20 => 96 | 10 => 86 | 11 => 87 | 12 => 88 | 13 => 89 | 14 => 90 | 15 => 91 | 16 => 92 | 17 => 93 | 18 => 94 | 30 => 99 | 31 => 100 | 32 => 101 | 33 => 102 | 34 => 103 | 35 => 104 | 40 => 105 | n => n, fun | 23 => 50 | 25 => 3 | 3 => 3 | 32 => 114 | 22 => 50 | 0 => 0 | 44 => 126 | 46 => 31 | 4 => 4 | 36 => 118 | 35 => 117 | 41 => 123 | 5 => 5 | 9 => 9 | 53 => 129 | 57 => 133 | 63 => 135 | 64 => 136 | n => n, fun | n => n⟩
theorem Tryz.laysSort : Go.Proofs.SlLaysM.n5 Tryz.prog Tryz.laysSort_ren := {
  mixed := by kernel_rfl
  f5 := ⟨Tryz.f67.name, by decide, Tryz.func67.trans (congrArg some (by kernel_rfl))⟩
  f7 := ⟨Tryz.f81.name, by decide, Tryz.func81.trans (congrArg some (by kernel_rfl))⟩
  f8 := Tryz.func82.trans (congrArg some (by kernel_rfl))
  f10 := ⟨Tryz.f86.name, by decide, Tryz.func86.trans (congrArg some (by kernel_rfl))⟩
  f11 := ⟨Tryz.f87.name, by decide, Tryz.func87.trans (congrArg some (by kernel_rfl))⟩
  f12 := ⟨Tryz.f88.name, by decide, Tryz.func88.trans (congrArg some (by kernel_rfl))⟩
  f13 := ⟨Tryz.f89.name, by decide, Tryz.func89.trans (congrArg some (by kernel_rfl))⟩
  f14 := ⟨Tryz.f90.name, by decide, Tryz.func90.trans (congrArg some (by kernel_rfl))⟩
  f15 := ⟨Tryz.f91.name, by decide, Tryz.func91.trans (congrArg some (by kernel_rfl))⟩
  f16 := ⟨Tryz.f92.name, by decide, Tryz.func92.trans (congrArg some (by kernel_rfl))⟩
  f17 := ⟨Tryz.f93.name, by decide, Tryz.func93.trans (congrArg some (by kernel_rfl))⟩
  f18 := ⟨Tryz.f94.name, by decide, Tryz.func94.trans (congrArg some (by kernel_rfl))⟩
  f19 := Tryz.func95.trans (congrArg some (by kernel_rfl))
  f20 := Tryz.func96.trans (congrArg some (by kernel_rfl))
  f30 := ⟨Tryz.f99.name, by decide, Tryz.func99.trans (congrArg some (by kernel_rfl))⟩
  f31 := Tryz.func100.trans (congrArg some (by kernel_rfl))
  f32 := Tryz.func101.trans (congrArg some (by kernel_rfl))
  f33 := ⟨Tryz.f102.name, by decide, Tryz.func102.trans (congrArg some (by kernel_rfl))⟩
  f34 := ⟨Tryz.f103.name, by decide, Tryz.func103.trans (congrArg some (by kernel_rfl))⟩
  f35 := ⟨Tryz.f104.name, by decide, Tryz.func104.trans (congrArg some (by kernel_rfl))⟩
  f40 := ⟨Tryz.f105.name, by decide, Tryz.func105.trans (congrArg some (by kernel_rfl))⟩
  t0 := Tryz.underlying0
  a0 := Tryz.isAgg0
  z0 := Tryz.sizeOf0
  v0 := Tryz.zeroValue0
  t3 := Tryz.underlying3
  a3 := Tryz.isAgg3
  z3 := Tryz.sizeOf3
  v3 := Tryz.zeroValue3
  t4 := Tryz.underlying4
  a4 := Tryz.isAgg4
  z4 := Tryz.sizeOf4
  v4 := Tryz.zeroValue4
  t5 := Tryz.underlying5
  a5 := Tryz.isAgg5
  z5 := Tryz.sizeOf5
  v5 := Tryz.zeroValue5
  t9 := Tryz.underlying9
  a9 := Tryz.isAgg9
  z9 := Tryz.sizeOf9
  v9 := Tryz.zeroValue9
  t22 := Tryz.underlying50
  a22 := Tryz.isAgg50
  z22 := Tryz.sizeOf50
  v22 := Tryz.zeroValue50
  t23 := Tryz.underlying50
  a23 := Tryz.isAgg50
  z23 := Tryz.sizeOf50
  v23 := Tryz.zeroValue50
  t25 := Tryz.underlying3
  a25 := Tryz.isAgg3
  z25 := Tryz.sizeOf3
  v25 := Tryz.zeroValue3
  t32 := Tryz.underlying114
  a32 := Tryz.isAgg114
  z32 := Tryz.sizeOf114
  v32 := Tryz.zeroValue114
  t35 := Tryz.underlying117
  a35 := Tryz.isAgg117
  z35 := Tryz.sizeOf117
  v35 := Tryz.zeroValue117
  t36 := Tryz.underlying118
  a36 := Tryz.isAgg118
  z36 := Tryz.sizeOf118
  v36 := Tryz.zeroValue118
  t41 := Tryz.underlying123
  a41 := Tryz.isAgg123
  z41 := Tryz.sizeOf123
  v41 := Tryz.zeroValue123
  t44 := Tryz.underlying126
  a44 := Tryz.isAgg126
  z44 := Tryz.sizeOf126
  v44 := Tryz.zeroValue126
  t46 := Tryz.underlying31
  a46 := Tryz.isAgg31
  z46 := Tryz.sizeOf31
  v46 := Tryz.zeroValue31
  t53 := Tryz.underlying129
  a53 := Tryz.isAgg129
  z53 := Tryz.sizeOf129
  v53 := Tryz.zeroValue129
  t57 := Tryz.underlying133
  a57 := Tryz.isAgg133
  z57 := Tryz.sizeOf133
  v57 := Tryz.zeroValue133
  t63 := Tryz.underlying135
  a63 := Tryz.isAgg135
  z63 := Tryz.sizeOf135
  v63 := Tryz.zeroValue135
  t64 := Tryz.underlying136
  a64 := Tryz.isAgg136
  z64 := Tryz.sizeOf136
  v64 := Tryz.zeroValue136 }
end Go.Proofs
