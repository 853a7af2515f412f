/- Merged out of: Ni Ns. -/
import Derived.Test.YtehcpjodkadfnaaUu
import Derived.Shelf.SortM.Plain
import Derived.Shelf.SortM.SortNone
import Derived.Test.YtehcpjodkadfnaaProg
/- Layer 8 of the heap, changes: the change of a field that is named. -/
set_option linter.unusedSimpArgs false
set_option linter.unusedVariables false
set_option maxRecDepth 100000
namespace Go.Proofs.Ytehcpjodkadfnaa
open Go.RowKit Go.Lib

theorem named_func (fn : Fn) (first cap : Array Value) (w : World) : Calls Try.prog 25 #[.func fn first cap] w fun e w' => e = .returned (.func (.func 44) #[] #[.pointer (some ⟨w.heap.size, 0, none⟩)]) ∧ w' = w.alloc (.cells #[.func fn first cap] 66) := by
  have hmf : ∀ (fn : Fn) (first cap : Array Value) (w : World), (Instr.makeFunc fn first cap).run Try.prog w = .ok (.func fn first cap) w := fun _ _ _ _ => rfl
  go_enter Try.func25, Try.ntmps25
  go_wp2
  go_ret
  exact ⟨rfl, rfl⟩
set_option maxHeartbeats 4000000 in
theorem named_no (l : List Fd) (c : Ch) (m : Nat) (hm : l.length = m) (h16 : m ≤ 16) (B : Option Addr) (d b1 b2 : Nat) (v2 v3 qv : Value) (w : World) (h1 : b1 ≤ b2) (h2 : b2 ≤ w.heap.size) (R1 : RdB b1 w B (cellsF l)) (own2 : w.ownsRow b1 24 3 v2 m (cellsF l)) (lt2 : OwnLt b2 v2) (own3 : w.ownsRow b2 63 4 v3 m (cellsM (kM m))) (P : Nat → Prop) (hP1 : ∀ ad, B = some ad → P ad.block) (hP2 : ∀ g, v2.ownBlock = some g → P g) (hP3 : ∀ g, v3.ownBlock = some g → P g) (hPn : ∀ g, w.heap.size ≤ g → P g) (bp : Nat) (F : Value) (hfn : w.cell? ⟨bp, 0, none⟩ = some F) (hz : findZ l c.s < 0) :
    Calls Try.prog 44 #[.agg #[.slice B m d, v2, v3], .agg #[.int .i64 c.op, .string c.s, .string c.g.s, .int .i64 c.g.k, .int .i64 c.g.l, .int .i64 c.d.k, .int .u64 c.d.b, .string c.d.t, qv], .pointer (some ⟨bp, 0, none⟩)] w fun e w' => StepP v2.ownBlock v3.ownBlock P Tb.z 61 w e w' := by
  obtain ⟨z, hzz⟩ : ∃ z, findZ l c.s = z := ⟨_, rfl⟩
  rw [hzz] at hz
  have hd : decide (z < 0) = true := by simpa using hz
  obtain ⟨B2, d2, rfl, hd2, hmx2, rd2⟩ := own_rd own2
  obtain ⟨B3, d3, rfl, hd3, hmx3, rd3⟩ := own_rd own3
  have bb1 := below_new (w := w) (.cells #[.slice B m d, .slice B2 m d2, .slice B3 m d3] 36)
  have bb2 := below_new (w := w.alloc (.cells #[.slice B m d, .slice B2 m d2, .slice B3 m d3] 36)) (.cells #[.int .i64 c.op, .string c.s, .string c.g.s, .int .i64 c.g.k, .int .i64 c.g.l, .int .i64 c.d.k, .int .u64 c.d.b, .string c.d.t, qv] 40)
  have bb3 := below_new (w := (w.alloc (.cells #[.slice B m d, .slice B2 m d2, .slice B3 m d3] 36)).alloc (.cells #[.int .i64 c.op, .string c.s, .string c.g.s, .int .i64 c.g.k, .int .i64 c.g.l, .int .i64 c.d.k, .int .u64 c.d.b, .string c.d.t, qv] 40)) (.cells #[.slice none 0 0, .slice none 0 0, .slice none 0 0] 36)
  have T1 := ((OBox.new w [.slice B m d, .slice B2 m d2, .slice B3 m d3] 36).below bb2).below bb3
  have C1 : CBox _ _ c qv 40 := (OBox.new (w.alloc (.cells #[.slice B m d, .slice B2 m d2, .slice B3 m d3] 36)) (chL c qv) 40).below bb3
  have N1 := OBox.new ((w.alloc (.cells #[.slice B m d, .slice B2 m d2, .slice B3 m d3] 36)).alloc (.cells #[.int .i64 c.op, .string c.s, .string c.g.s, .int .i64 c.g.k, .int .i64 c.g.l, .int .i64 c.d.k, .int .u64 c.d.b, .string c.d.t, qv] 40)) [.slice none 0 0, .slice none 0 0, .slice none 0 0] 36
  have HB := below_seq (below_seq bb1 bb2) bb3
  rw [World.size_alloc] at C1
  rw [World.size_alloc, World.size_alloc] at N1
  obtain ⟨i1, i2, i3, j1, j2, j3⟩ := T1.f3
  obtain ⟨n1, n2, n3, o1, o2, o3⟩ := N1.f3
  obtain ⟨a0, a1, a2, a3, a4, a5, a6, a7, a8⟩ := C1.c9
  have HM := Lib.hid hm
  have HP1 := Lib.hid hP1
  have HP2 := Lib.hid hP2
  have HP3 := Lib.hid hP3
  have HPN := Lib.hid hPn
  clear hm bb1 bb2 bb3 hP1 hP2 hP3 hPn
  have HZ := Lib.hid hzz
  have RO := R1.rd.below HB
  clear hzz hz own2 own3 R1 rd2 rd3
  go_enter Try.func44, Try.ntmps44
  go_wp2_with (go_at_call 40; refine (Find_m B d m l HM.out c.s z HZ.out _ RO (by omega)).mono ?_; rintro e wM ⟨rfl, hb⟩; replace HB := HB.trans (hb.mono HB.size); replace T1 := T1.below hb; replace C1 := C1.below hb; replace N1 := N1.below hb; clear hb i1 i2 i3 j1 j2 j3 n1 n2 n3 o1 o2 o3 a0 a1 a2 a3 a4 a5 a6 a7 a8; obtain ⟨i1, i2, i3, j1, j2, j3⟩ := T1.f3; obtain ⟨n1, n2, n3, o1, o2, o3⟩ := N1.f3; obtain ⟨a0, a1, a2, a3, a4, a5, a6, a7, a8⟩ := C1.c9; have hfn2 := cell_below (B := 0) HB hfn)
  refine bodyPost_ret (v := .tuple #[.agg #[.slice B m d, .slice B2 m d2, .slice B3 m d3], .int .i64 61]) (by simp [results, Try.results44, go_sem, *]; done) rfl ⟨_, _, _, _, _, _, _, _, _, rfl, fun h => absurd h (by decide), Only.of ?_⟩
  (repeat (first | exact HB | refine Below.setCell ?_ (by dsimp only; omega) _ | refine Below.alloc ?_ (by have hs_ := HB.size; first | (simp; done) | (simp; omega) | omega) _ | apply Below.drew))
set_option maxHeartbeats 4000000 in
theorem named_drops (l : List Fd) (c : Ch) (m : Nat) (hm : l.length = m) (h16 : m ≤ 16) (B : Option Addr) (d b1 b2 : Nat) (v2 v3 qv : Value) (w : World) (h1 : b1 ≤ b2) (h2 : b2 ≤ w.heap.size) (R1 : RdB b1 w B (cellsF l)) (own2 : w.ownsRow b1 24 3 v2 m (cellsF l)) (lt2 : OwnLt b2 v2) (own3 : w.ownsRow b2 63 4 v3 m (cellsM (kM m))) (P : Nat → Prop) (hP1 : ∀ ad, B = some ad → P ad.block) (hP2 : ∀ g, v2.ownBlock = some g → P g) (hP3 : ∀ g, v3.ownBlock = some g → P g) (hPn : ∀ g, w.heap.size ≤ g → P g) (bp : Nat) (hfn : w.cell? ⟨bp, 0, none⟩ = some (.func (.func 26) #[] #[])) (k : Nat) (hz : findZ l c.s = k)  :
    Calls Try.prog 44 #[.agg #[.slice B m d, v2, v3], .agg #[.int .i64 c.op, .string c.s, .string c.g.s, .int .i64 c.g.k, .int .i64 c.g.l, .int .i64 c.d.k, .int .u64 c.d.b, .string c.d.t, qv], .pointer (some ⟨bp, 0, none⟩)] w fun e w' => StepP v2.ownBlock v3.ownBlock P ⟨l, l.eraseIdx k, (kM m).eraseIdx k⟩ 0 w e w' := by
  have hk : k < m := by have := findZ_ge l c.s; omega
  obtain ⟨B2, d2, rfl, hd2, hmx2, rd2⟩ := own_rd own2
  obtain ⟨B3, d3, rfl, hd3, hmx3, rd3⟩ := own_rd own3
  have bb1 := below_new (w := w) (.cells #[.slice B m d, .slice B2 m d2, .slice B3 m d3] 36)
  have bb2 := below_new (w := w.alloc (.cells #[.slice B m d, .slice B2 m d2, .slice B3 m d3] 36)) (.cells #[.int .i64 c.op, .string c.s, .string c.g.s, .int .i64 c.g.k, .int .i64 c.g.l, .int .i64 c.d.k, .int .u64 c.d.b, .string c.d.t, qv] 40)
  have bb3 := below_new (w := (w.alloc (.cells #[.slice B m d, .slice B2 m d2, .slice B3 m d3] 36)).alloc (.cells #[.int .i64 c.op, .string c.s, .string c.g.s, .int .i64 c.g.k, .int .i64 c.g.l, .int .i64 c.d.k, .int .u64 c.d.b, .string c.d.t, qv] 40)) (.cells #[.slice none 0 0, .slice none 0 0, .slice none 0 0] 36)
  have T1 := ((OBox.new w [.slice B m d, .slice B2 m d2, .slice B3 m d3] 36).below bb2).below bb3
  have C1 : CBox _ _ c qv 40 := (OBox.new (w.alloc (.cells #[.slice B m d, .slice B2 m d2, .slice B3 m d3] 36)) (chL c qv) 40).below bb3
  have N1 := OBox.new ((w.alloc (.cells #[.slice B m d, .slice B2 m d2, .slice B3 m d3] 36)).alloc (.cells #[.int .i64 c.op, .string c.s, .string c.g.s, .int .i64 c.g.k, .int .i64 c.g.l, .int .i64 c.d.k, .int .u64 c.d.b, .string c.d.t, qv] 40)) [.slice none 0 0, .slice none 0 0, .slice none 0 0] 36
  have HB := below_seq (below_seq bb1 bb2) bb3
  rw [World.size_alloc] at C1
  rw [World.size_alloc, World.size_alloc] at N1
  obtain ⟨i1, i2, i3, j1, j2, j3⟩ := T1.f3
  obtain ⟨n1, n2, n3, o1, o2, o3⟩ := N1.f3
  obtain ⟨a0, a1, a2, a3, a4, a5, a6, a7, a8⟩ := C1.c9
  have HM := Lib.hid hm
  have HP1 := Lib.hid hP1
  have HP2 := Lib.hid hP2
  have HP3 := Lib.hid hP3
  have HPN := Lib.hid hPn
  clear hm bb1 bb2 bb3 hP1 hP2 hP3 hPn
  have HZ := Lib.hid hz
  have RO := R1.rd.below HB
  have l3 := own_lt own3
  have hbl : Hid (∀ ad, B = some ad → ad.block < w.heap.size) := Lib.hid (fun ad e => by
    obtain ⟨ad', e', hlt, _⟩ := R1 (by intro e; have := congrArg List.length e; rw [cellsF_length, HM.out] at this; simp at this; omega)
    rw [e] at e'; cases e'; omega)
  have hnn : decide ((k : Int) < 0) = false := by simp
  clear hz rd2 rd3
  go_enter Try.func44, Try.ntmps44
  go_wp2_with (first
    | (go_at_call 40; refine (Find_m B d m l HM.out c.s k HZ.out _ RO (by omega)).mono ?_; rintro e wM ⟨rfl, hb⟩; replace HB := HB.trans (hb.mono HB.size); replace T1 := T1.below hb; replace C1 := C1.below hb; replace N1 := N1.below hb; clear hb i1 i2 i3 j1 j2 j3 n1 n2 n3 o1 o2 o3 a0 a1 a2 a3 a4 a5 a6 a7 a8; obtain ⟨i1, i2, i3, j1, j2, j3⟩ := T1.f3; obtain ⟨n1, n2, n3, o1, o2, o3⟩ := N1.f3; obtain ⟨a0, a1, a2, a3, a4, a5, a6, a7, a8⟩ := C1.c9; have hfn2 := cell_below (B := 0) HB hfn)
    | (go_at_call 26; refine (drops_m l c m HM.out h16 B d b1 b2 _ _ qv wM h1 (by have := HB.size; omega) (R1.below (HB.mono (Nat.le_trans h1 h2))) (own_below own2 HB) lt2 (own_below own3 HB) (fun g => (P g ∧ g < w.heap.size) ∨ wM.heap.size ≤ g) (fun ad e => .inl ⟨HP1.out ad e, hbl.out ad e⟩) (fun g hg => .inl ⟨HP2.out g hg, by have := lt2 g hg; omega⟩) (fun g hg => .inl ⟨HP3.out g hg, l3 g hg⟩) (fun g hg => .inr hg) k hk).mono ?_))
  rintro e W5 ⟨X0, y0, z0, X1, y1, z1, X2, y2, z2, rfl, hTV, hO⟩
  have HT := Lib.hid hTV
  clear hTV
  have zz := N1.lt
  have N5 := N1.only hO (by intro e; have := lt2 _ e.symm; omega) (by intro e; have := l3 _ e.symm; omega)
  clear i1 i2 i3 j1 j2 j3 n1 n2 n3 o1 o2 o3 a0 a1 a2 a3 a4 a5 a6 a7 a8
  obtain ⟨n1, n2, n3, o1, o2, o3⟩ := N5.f3
  go_wp2
  refine bodyPost_ret (v := .tuple #[.agg #[.slice X0 y0 z0, .slice X1 y1 z1, .slice X2 y2 z2], .int .i64 0]) (by simp [results, Try.results44, go_sem, *]; done) rfl ⟨_, _, _, _, _, _, _, _, _, rfl, fun h => ?_, ?_⟩
  · refine ((HT.out (by first | exact h | trivial)).keep (fun g hg => ?_)).mono (fun g hg => ?_)
    · have hne : g ≠ w.heap.size + 2 := by rcases hg with hg | hg <;> omega
      exact (Below.heap_setCell _ _ _ _ hne).trans ((Below.heap_setCell _ _ _ _ hne).trans (Below.heap_setCell _ _ _ _ hne))
    · rcases hg with hg | hg
      · exact hg.1
      · exact HPN.out g (by omega)
  · exact ((((Only.of HB).then hO).setCell (by show w.heap.size ≤ w.heap.size + 2; omega) _).setCell (by show w.heap.size ≤ w.heap.size + 2; omega) _).setCell (by show w.heap.size ≤ w.heap.size + 2; omega) _
set_option maxHeartbeats 4000000 in
theorem named_renames (l : List Fd) (c : Ch) (m : Nat) (hm : l.length = m) (h16 : m ≤ 16) (B : Option Addr) (d b1 b2 : Nat) (v2 v3 qv : Value) (w : World) (h1 : b1 ≤ b2) (h2 : b2 ≤ w.heap.size) (R1 : RdB b1 w B (cellsF l)) (own2 : w.ownsRow b1 24 3 v2 m (cellsF l)) (lt2 : OwnLt b2 v2) (own3 : w.ownsRow b2 63 4 v3 m (cellsM (kM m))) (P : Nat → Prop) (hP1 : ∀ ad, B = some ad → P ad.block) (hP2 : ∀ g, v2.ownBlock = some g → P g) (hP3 : ∀ g, v3.ownBlock = some g → P g) (hPn : ∀ g, w.heap.size ≤ g → P g) (bp : Nat) (hfn : w.cell? ⟨bp, 0, none⟩ = some (.func (.func 27) #[] #[])) (k : Nat) (hz : findZ l c.s = k) (f : Fd) (hf : l[k]? = some f) :
    Calls Try.prog 44 #[.agg #[.slice B m d, v2, v3], .agg #[.int .i64 c.op, .string c.s, .string c.g.s, .int .i64 c.g.k, .int .i64 c.g.l, .int .i64 c.d.k, .int .u64 c.d.b, .string c.d.t, qv], .pointer (some ⟨bp, 0, none⟩)] w fun e w' => StepP v2.ownBlock v3.ownBlock P ⟨l, l.set k ⟨c.g.s, f.k, f.l⟩, kM m⟩ 0 w e w' := by
  have hk : k < m := by have := findZ_ge l c.s; omega
  obtain ⟨B2, d2, rfl, hd2, hmx2, rd2⟩ := own_rd own2
  obtain ⟨B3, d3, rfl, hd3, hmx3, rd3⟩ := own_rd own3
  have bb1 := below_new (w := w) (.cells #[.slice B m d, .slice B2 m d2, .slice B3 m d3] 36)
  have bb2 := below_new (w := w.alloc (.cells #[.slice B m d, .slice B2 m d2, .slice B3 m d3] 36)) (.cells #[.int .i64 c.op, .string c.s, .string c.g.s, .int .i64 c.g.k, .int .i64 c.g.l, .int .i64 c.d.k, .int .u64 c.d.b, .string c.d.t, qv] 40)
  have bb3 := below_new (w := (w.alloc (.cells #[.slice B m d, .slice B2 m d2, .slice B3 m d3] 36)).alloc (.cells #[.int .i64 c.op, .string c.s, .string c.g.s, .int .i64 c.g.k, .int .i64 c.g.l, .int .i64 c.d.k, .int .u64 c.d.b, .string c.d.t, qv] 40)) (.cells #[.slice none 0 0, .slice none 0 0, .slice none 0 0] 36)
  have T1 := ((OBox.new w [.slice B m d, .slice B2 m d2, .slice B3 m d3] 36).below bb2).below bb3
  have C1 : CBox _ _ c qv 40 := (OBox.new (w.alloc (.cells #[.slice B m d, .slice B2 m d2, .slice B3 m d3] 36)) (chL c qv) 40).below bb3
  have N1 := OBox.new ((w.alloc (.cells #[.slice B m d, .slice B2 m d2, .slice B3 m d3] 36)).alloc (.cells #[.int .i64 c.op, .string c.s, .string c.g.s, .int .i64 c.g.k, .int .i64 c.g.l, .int .i64 c.d.k, .int .u64 c.d.b, .string c.d.t, qv] 40)) [.slice none 0 0, .slice none 0 0, .slice none 0 0] 36
  have HB := below_seq (below_seq bb1 bb2) bb3
  rw [World.size_alloc] at C1
  rw [World.size_alloc, World.size_alloc] at N1
  obtain ⟨i1, i2, i3, j1, j2, j3⟩ := T1.f3
  obtain ⟨n1, n2, n3, o1, o2, o3⟩ := N1.f3
  obtain ⟨a0, a1, a2, a3, a4, a5, a6, a7, a8⟩ := C1.c9
  have HM := Lib.hid hm
  have HP1 := Lib.hid hP1
  have HP2 := Lib.hid hP2
  have HP3 := Lib.hid hP3
  have HPN := Lib.hid hPn
  clear hm bb1 bb2 bb3 hP1 hP2 hP3 hPn
  have HZ := Lib.hid hz
  have RO := R1.rd.below HB
  have l3 := own_lt own3
  have hbl : Hid (∀ ad, B = some ad → ad.block < w.heap.size) := Lib.hid (fun ad e => by
    obtain ⟨ad', e', hlt, _⟩ := R1 (by intro e; have := congrArg List.length e; rw [cellsF_length, HM.out] at this; simp at this; omega)
    rw [e] at e'; cases e'; omega)
  have hnn : decide ((k : Int) < 0) = false := by simp
  clear hz rd2 rd3
  go_enter Try.func44, Try.ntmps44
  go_wp2_with (first
    | (go_at_call 40; refine (Find_m B d m l HM.out c.s k HZ.out _ RO (by omega)).mono ?_; rintro e wM ⟨rfl, hb⟩; replace HB := HB.trans (hb.mono HB.size); replace T1 := T1.below hb; replace C1 := C1.below hb; replace N1 := N1.below hb; clear hb i1 i2 i3 j1 j2 j3 n1 n2 n3 o1 o2 o3 a0 a1 a2 a3 a4 a5 a6 a7 a8; obtain ⟨i1, i2, i3, j1, j2, j3⟩ := T1.f3; obtain ⟨n1, n2, n3, o1, o2, o3⟩ := N1.f3; obtain ⟨a0, a1, a2, a3, a4, a5, a6, a7, a8⟩ := C1.c9; have hfn2 := cell_below (B := 0) HB hfn)
    | (go_at_call 27; refine (renames_m l c m HM.out h16 B d b1 b2 _ _ qv wM h1 (by have := HB.size; omega) (R1.below (HB.mono (Nat.le_trans h1 h2))) (own_below own2 HB) lt2 (own_below own3 HB) (fun g => (P g ∧ g < w.heap.size) ∨ wM.heap.size ≤ g) (fun ad e => .inl ⟨HP1.out ad e, hbl.out ad e⟩) (fun g hg => .inl ⟨HP2.out g hg, by have := lt2 g hg; omega⟩) (fun g hg => .inl ⟨HP3.out g hg, l3 g hg⟩) (fun g hg => .inr hg) k f hf).mono ?_))
  rintro e W5 ⟨X0, y0, z0, X1, y1, z1, X2, y2, z2, rfl, hTV, hO⟩
  have HT := Lib.hid hTV
  clear hTV
  have zz := N1.lt
  have N5 := N1.only hO (by intro e; have := lt2 _ e.symm; omega) (by intro e; have := l3 _ e.symm; omega)
  clear i1 i2 i3 j1 j2 j3 n1 n2 n3 o1 o2 o3 a0 a1 a2 a3 a4 a5 a6 a7 a8
  obtain ⟨n1, n2, n3, o1, o2, o3⟩ := N5.f3
  go_wp2
  refine bodyPost_ret (v := .tuple #[.agg #[.slice X0 y0 z0, .slice X1 y1 z1, .slice X2 y2 z2], .int .i64 0]) (by simp [results, Try.results44, go_sem, *]; done) rfl ⟨_, _, _, _, _, _, _, _, _, rfl, fun h => ?_, ?_⟩
  · refine ((HT.out (by first | exact h | trivial)).keep (fun g hg => ?_)).mono (fun g hg => ?_)
    · have hne : g ≠ w.heap.size + 2 := by rcases hg with hg | hg <;> omega
      exact (Below.heap_setCell _ _ _ _ hne).trans ((Below.heap_setCell _ _ _ _ hne).trans (Below.heap_setCell _ _ _ _ hne))
    · rcases hg with hg | hg
      · exact hg.1
      · exact HPN.out g (by omega)
  · exact ((((Only.of HB).then hO).setCell (by show w.heap.size ≤ w.heap.size + 2; omega) _).setCell (by show w.heap.size ≤ w.heap.size + 2; omega) _).setCell (by show w.heap.size ≤ w.heap.size + 2; omega) _
set_option maxHeartbeats 4000000 in
theorem named_recasts_yes (l : List Fd) (c : Ch) (m : Nat) (hm : l.length = m) (h16 : m ≤ 16) (B : Option Addr) (d b1 b2 : Nat) (v2 v3 qv : Value) (w : World) (h1 : b1 ≤ b2) (h2 : b2 ≤ w.heap.size) (R1 : RdB b1 w B (cellsF l)) (own2 : w.ownsRow b1 24 3 v2 m (cellsF l)) (lt2 : OwnLt b2 v2) (own3 : w.ownsRow b2 63 4 v3 m (cellsM (kM m))) (P : Nat → Prop) (hP1 : ∀ ad, B = some ad → P ad.block) (hP2 : ∀ g, v2.ownBlock = some g → P g) (hP3 : ∀ g, v3.ownBlock = some g → P g) (hPn : ∀ g, w.heap.size ≤ g → P g) (bp : Nat) (hfn : w.cell? ⟨bp, 0, none⟩ = some (.func (.func 28) #[] #[])) (k : Nat) (hz : findZ l c.s = k) (f : Fd) (hf : l[k]? = some f) (hr : castsB f.k f.l c.g.k c.g.l = true) :
    Calls Try.prog 44 #[.agg #[.slice B m d, v2, v3], .agg #[.int .i64 c.op, .string c.s, .string c.g.s, .int .i64 c.g.k, .int .i64 c.g.l, .int .i64 c.d.k, .int .u64 c.d.b, .string c.d.t, qv], .pointer (some ⟨bp, 0, none⟩)] w fun e w' => StepP v2.ownBlock v3.ownBlock P ⟨l, l.set k ⟨f.s, c.g.k, c.g.l⟩, kM m⟩ 0 w e w' := by
  have hk : k < m := by have := findZ_ge l c.s; omega
  obtain ⟨B2, d2, rfl, hd2, hmx2, rd2⟩ := own_rd own2
  obtain ⟨B3, d3, rfl, hd3, hmx3, rd3⟩ := own_rd own3
  have bb1 := below_new (w := w) (.cells #[.slice B m d, .slice B2 m d2, .slice B3 m d3] 36)
  have bb2 := below_new (w := w.alloc (.cells #[.slice B m d, .slice B2 m d2, .slice B3 m d3] 36)) (.cells #[.int .i64 c.op, .string c.s, .string c.g.s, .int .i64 c.g.k, .int .i64 c.g.l, .int .i64 c.d.k, .int .u64 c.d.b, .string c.d.t, qv] 40)
  have bb3 := below_new (w := (w.alloc (.cells #[.slice B m d, .slice B2 m d2, .slice B3 m d3] 36)).alloc (.cells #[.int .i64 c.op, .string c.s, .string c.g.s, .int .i64 c.g.k, .int .i64 c.g.l, .int .i64 c.d.k, .int .u64 c.d.b, .string c.d.t, qv] 40)) (.cells #[.slice none 0 0, .slice none 0 0, .slice none 0 0] 36)
  have T1 := ((OBox.new w [.slice B m d, .slice B2 m d2, .slice B3 m d3] 36).below bb2).below bb3
  have C1 : CBox _ _ c qv 40 := (OBox.new (w.alloc (.cells #[.slice B m d, .slice B2 m d2, .slice B3 m d3] 36)) (chL c qv) 40).below bb3
  have N1 := OBox.new ((w.alloc (.cells #[.slice B m d, .slice B2 m d2, .slice B3 m d3] 36)).alloc (.cells #[.int .i64 c.op, .string c.s, .string c.g.s, .int .i64 c.g.k, .int .i64 c.g.l, .int .i64 c.d.k, .int .u64 c.d.b, .string c.d.t, qv] 40)) [.slice none 0 0, .slice none 0 0, .slice none 0 0] 36
  have HB := below_seq (below_seq bb1 bb2) bb3
  rw [World.size_alloc] at C1
  rw [World.size_alloc, World.size_alloc] at N1
  obtain ⟨i1, i2, i3, j1, j2, j3⟩ := T1.f3
  obtain ⟨n1, n2, n3, o1, o2, o3⟩ := N1.f3
  obtain ⟨a0, a1, a2, a3, a4, a5, a6, a7, a8⟩ := C1.c9
  have HM := Lib.hid hm
  have HP1 := Lib.hid hP1
  have HP2 := Lib.hid hP2
  have HP3 := Lib.hid hP3
  have HPN := Lib.hid hPn
  clear hm bb1 bb2 bb3 hP1 hP2 hP3 hPn
  have HZ := Lib.hid hz
  have RO := R1.rd.below HB
  have l3 := own_lt own3
  have hbl : Hid (∀ ad, B = some ad → ad.block < w.heap.size) := Lib.hid (fun ad e => by
    obtain ⟨ad', e', hlt, _⟩ := R1 (by intro e; have := congrArg List.length e; rw [cellsF_length, HM.out] at this; simp at this; omega)
    rw [e] at e'; cases e'; omega)
  have hnn : decide ((k : Int) < 0) = false := by simp
  clear hz rd2 rd3
  go_enter Try.func44, Try.ntmps44
  go_wp2_with (first
    | (go_at_call 40; refine (Find_m B d m l HM.out c.s k HZ.out _ RO (by omega)).mono ?_; rintro e wM ⟨rfl, hb⟩; replace HB := HB.trans (hb.mono HB.size); replace T1 := T1.below hb; replace C1 := C1.below hb; replace N1 := N1.below hb; clear hb i1 i2 i3 j1 j2 j3 n1 n2 n3 o1 o2 o3 a0 a1 a2 a3 a4 a5 a6 a7 a8; obtain ⟨i1, i2, i3, j1, j2, j3⟩ := T1.f3; obtain ⟨n1, n2, n3, o1, o2, o3⟩ := N1.f3; obtain ⟨a0, a1, a2, a3, a4, a5, a6, a7, a8⟩ := C1.c9; have hfn2 := cell_below (B := 0) HB hfn)
    | (go_at_call 28; refine (recasts_yes l c m HM.out h16 B d b1 b2 _ _ qv wM h1 (by have := HB.size; omega) (R1.below (HB.mono (Nat.le_trans h1 h2))) (own_below own2 HB) lt2 (own_below own3 HB) (fun g => (P g ∧ g < w.heap.size) ∨ wM.heap.size ≤ g) (fun ad e => .inl ⟨HP1.out ad e, hbl.out ad e⟩) (fun g hg => .inl ⟨HP2.out g hg, by have := lt2 g hg; omega⟩) (fun g hg => .inl ⟨HP3.out g hg, l3 g hg⟩) (fun g hg => .inr hg) k f hf hr).mono ?_))
  rintro e W5 ⟨X0, y0, z0, X1, y1, z1, X2, y2, z2, rfl, hTV, hO⟩
  have HT := Lib.hid hTV
  clear hTV
  have zz := N1.lt
  have N5 := N1.only hO (by intro e; have := lt2 _ e.symm; omega) (by intro e; have := l3 _ e.symm; omega)
  clear i1 i2 i3 j1 j2 j3 n1 n2 n3 o1 o2 o3 a0 a1 a2 a3 a4 a5 a6 a7 a8
  obtain ⟨n1, n2, n3, o1, o2, o3⟩ := N5.f3
  go_wp2
  refine bodyPost_ret (v := .tuple #[.agg #[.slice X0 y0 z0, .slice X1 y1 z1, .slice X2 y2 z2], .int .i64 0]) (by simp [results, Try.results44, go_sem, *]; done) rfl ⟨_, _, _, _, _, _, _, _, _, rfl, fun h => ?_, ?_⟩
  · refine ((HT.out (by first | exact h | trivial)).keep (fun g hg => ?_)).mono (fun g hg => ?_)
    · have hne : g ≠ w.heap.size + 2 := by rcases hg with hg | hg <;> omega
      exact (Below.heap_setCell _ _ _ _ hne).trans ((Below.heap_setCell _ _ _ _ hne).trans (Below.heap_setCell _ _ _ _ hne))
    · rcases hg with hg | hg
      · exact hg.1
      · exact HPN.out g (by omega)
  · exact ((((Only.of HB).then hO).setCell (by show w.heap.size ≤ w.heap.size + 2; omega) _).setCell (by show w.heap.size ≤ w.heap.size + 2; omega) _).setCell (by show w.heap.size ≤ w.heap.size + 2; omega) _
set_option maxHeartbeats 4000000 in
theorem named_recasts_no (l : List Fd) (c : Ch) (m : Nat) (hm : l.length = m) (h16 : m ≤ 16) (B : Option Addr) (d b1 b2 : Nat) (v2 v3 qv : Value) (w : World) (h1 : b1 ≤ b2) (h2 : b2 ≤ w.heap.size) (R1 : RdB b1 w B (cellsF l)) (own2 : w.ownsRow b1 24 3 v2 m (cellsF l)) (lt2 : OwnLt b2 v2) (own3 : w.ownsRow b2 63 4 v3 m (cellsM (kM m))) (P : Nat → Prop) (hP1 : ∀ ad, B = some ad → P ad.block) (hP2 : ∀ g, v2.ownBlock = some g → P g) (hP3 : ∀ g, v3.ownBlock = some g → P g) (hPn : ∀ g, w.heap.size ≤ g → P g) (bp : Nat) (hfn : w.cell? ⟨bp, 0, none⟩ = some (.func (.func 28) #[] #[])) (k : Nat) (hz : findZ l c.s = k) (f : Fd) (hf : l[k]? = some f) (hr : castsB f.k f.l c.g.k c.g.l = false) :
    Calls Try.prog 44 #[.agg #[.slice B m d, v2, v3], .agg #[.int .i64 c.op, .string c.s, .string c.g.s, .int .i64 c.g.k, .int .i64 c.g.l, .int .i64 c.d.k, .int .u64 c.d.b, .string c.d.t, qv], .pointer (some ⟨bp, 0, none⟩)] w fun e w' => StepP v2.ownBlock v3.ownBlock P Tb.z 80 w e w' := by
  have hk : k < m := by have := findZ_ge l c.s; omega
  obtain ⟨B2, d2, rfl, hd2, hmx2, rd2⟩ := own_rd own2
  obtain ⟨B3, d3, rfl, hd3, hmx3, rd3⟩ := own_rd own3
  have bb1 := below_new (w := w) (.cells #[.slice B m d, .slice B2 m d2, .slice B3 m d3] 36)
  have bb2 := below_new (w := w.alloc (.cells #[.slice B m d, .slice B2 m d2, .slice B3 m d3] 36)) (.cells #[.int .i64 c.op, .string c.s, .string c.g.s, .int .i64 c.g.k, .int .i64 c.g.l, .int .i64 c.d.k, .int .u64 c.d.b, .string c.d.t, qv] 40)
  have bb3 := below_new (w := (w.alloc (.cells #[.slice B m d, .slice B2 m d2, .slice B3 m d3] 36)).alloc (.cells #[.int .i64 c.op, .string c.s, .string c.g.s, .int .i64 c.g.k, .int .i64 c.g.l, .int .i64 c.d.k, .int .u64 c.d.b, .string c.d.t, qv] 40)) (.cells #[.slice none 0 0, .slice none 0 0, .slice none 0 0] 36)
  have T1 := ((OBox.new w [.slice B m d, .slice B2 m d2, .slice B3 m d3] 36).below bb2).below bb3
  have C1 : CBox _ _ c qv 40 := (OBox.new (w.alloc (.cells #[.slice B m d, .slice B2 m d2, .slice B3 m d3] 36)) (chL c qv) 40).below bb3
  have N1 := OBox.new ((w.alloc (.cells #[.slice B m d, .slice B2 m d2, .slice B3 m d3] 36)).alloc (.cells #[.int .i64 c.op, .string c.s, .string c.g.s, .int .i64 c.g.k, .int .i64 c.g.l, .int .i64 c.d.k, .int .u64 c.d.b, .string c.d.t, qv] 40)) [.slice none 0 0, .slice none 0 0, .slice none 0 0] 36
  have HB := below_seq (below_seq bb1 bb2) bb3
  rw [World.size_alloc] at C1
  rw [World.size_alloc, World.size_alloc] at N1
  obtain ⟨i1, i2, i3, j1, j2, j3⟩ := T1.f3
  obtain ⟨n1, n2, n3, o1, o2, o3⟩ := N1.f3
  obtain ⟨a0, a1, a2, a3, a4, a5, a6, a7, a8⟩ := C1.c9
  have HM := Lib.hid hm
  have HP1 := Lib.hid hP1
  have HP2 := Lib.hid hP2
  have HP3 := Lib.hid hP3
  have HPN := Lib.hid hPn
  clear hm bb1 bb2 bb3 hP1 hP2 hP3 hPn
  have HZ := Lib.hid hz
  have RO := R1.rd.below HB
  have l3 := own_lt own3
  have hbl : Hid (∀ ad, B = some ad → ad.block < w.heap.size) := Lib.hid (fun ad e => by
    obtain ⟨ad', e', hlt, _⟩ := R1 (by intro e; have := congrArg List.length e; rw [cellsF_length, HM.out] at this; simp at this; omega)
    rw [e] at e'; cases e'; omega)
  have hnn : decide ((k : Int) < 0) = false := by simp
  clear hz rd2 rd3
  go_enter Try.func44, Try.ntmps44
  go_wp2_with (first
    | (go_at_call 40; refine (Find_m B d m l HM.out c.s k HZ.out _ RO (by omega)).mono ?_; rintro e wM ⟨rfl, hb⟩; replace HB := HB.trans (hb.mono HB.size); replace T1 := T1.below hb; replace C1 := C1.below hb; replace N1 := N1.below hb; clear hb i1 i2 i3 j1 j2 j3 n1 n2 n3 o1 o2 o3 a0 a1 a2 a3 a4 a5 a6 a7 a8; obtain ⟨i1, i2, i3, j1, j2, j3⟩ := T1.f3; obtain ⟨n1, n2, n3, o1, o2, o3⟩ := N1.f3; obtain ⟨a0, a1, a2, a3, a4, a5, a6, a7, a8⟩ := C1.c9; have hfn2 := cell_below (B := 0) HB hfn)
    | (go_at_call 28; refine (recasts_no l c m HM.out h16 B d b1 b2 _ _ qv wM h1 (by have := HB.size; omega) (R1.below (HB.mono (Nat.le_trans h1 h2))) (own_below own2 HB) lt2 (own_below own3 HB) (fun g => (P g ∧ g < w.heap.size) ∨ wM.heap.size ≤ g) (fun ad e => .inl ⟨HP1.out ad e, hbl.out ad e⟩) (fun g hg => .inl ⟨HP2.out g hg, by have := lt2 g hg; omega⟩) (fun g hg => .inl ⟨HP3.out g hg, l3 g hg⟩) (fun g hg => .inr hg) k f hf hr).mono ?_))
  rintro e W5 ⟨X0, y0, z0, X1, y1, z1, X2, y2, z2, rfl, hTV, hO⟩
  have HT := Lib.hid hTV
  clear hTV
  have zz := N1.lt
  have N5 := N1.only hO (by intro e; have := lt2 _ e.symm; omega) (by intro e; have := l3 _ e.symm; omega)
  clear i1 i2 i3 j1 j2 j3 n1 n2 n3 o1 o2 o3 a0 a1 a2 a3 a4 a5 a6 a7 a8
  obtain ⟨n1, n2, n3, o1, o2, o3⟩ := N5.f3
  go_wp2
  refine bodyPost_ret (v := .tuple #[.agg #[.slice X0 y0 z0, .slice X1 y1 z1, .slice X2 y2 z2], .int .i64 80]) (by simp [results, Try.results44, go_sem, *]; done) rfl ⟨_, _, _, _, _, _, _, _, _, rfl, fun h => ?_, ?_⟩
  · exact absurd h (by decide)
  · exact ((((Only.of HB).then hO).setCell (by show w.heap.size ≤ w.heap.size + 2; omega) _).setCell (by show w.heap.size ≤ w.heap.size + 2; omega) _).setCell (by show w.heap.size ≤ w.heap.size + 2; omega) _
end Go.Proofs.Ytehcpjodkadfnaa
/- slices.Sort at rows of numbers, by the contract that the library proves: the numbers that it asks of this program. -/
namespace Go.Proofs
open Go.Shelf
def Try.laysSort_ren : Go.Shelf.Ren := ⟨fun | 5 => 48 | 8 => 65 | 7 => 64 | 19 => 87 | 20 => 88 | 10 => 78 | 11 => 79 | 12 => 80 | 13 => 81 | 14 => 82 | 15 => 83 | 16 => 84 | 17 => 85 | 18 => 86 | 30 => 91 | 31 => 92 | 32 => 93 | 33 => 94 | 34 => 95 | 35 => 96 | 40 => 99 | n => n, fun | 23 => 28 | 25 => 3 | 3 => 3 | 32 => 93 | 22 => 28 | 0 => 0 | 44 => 113 | 46 => 25 | 4 => 4 | 36 => 105 | 35 => 104 | 41 => 110 | 5 => 5 | 9 => 9 | 53 => 117 | 57 => 121 | 63 => 123 | 64 => 124 | n => n, fun | n => n⟩
theorem Try.laysSort : Go.Proofs.SlLaysM.n5 Try.prog Try.laysSort_ren := {
  mixed := by kernel_rfl
  f5 := ⟨Try.f48.name, by decide, Try.func48.trans (congrArg some (by kernel_rfl))⟩
  f7 := ⟨Try.f64.name, by decide, Try.func64.trans (congrArg some (by kernel_rfl))⟩
  f8 := Try.func65.trans (congrArg some (by kernel_rfl))
  f10 := ⟨Try.f78.name, by decide, Try.func78.trans (congrArg some (by kernel_rfl))⟩
  f11 := ⟨Try.f79.name, by decide, Try.func79.trans (congrArg some (by kernel_rfl))⟩
  f12 := ⟨Try.f80.name, by decide, Try.func80.trans (congrArg some (by kernel_rfl))⟩
  f13 := ⟨Try.f81.name, by decide, Try.func81.trans (congrArg some (by kernel_rfl))⟩
  f14 := ⟨Try.f82.name, by decide, Try.func82.trans (congrArg some (by kernel_rfl))⟩
  f15 := ⟨Try.f83.name, by decide, Try.func83.trans (congrArg some (by kernel_rfl))⟩
  f16 := ⟨Try.f84.name, by decide, Try.func84.trans (congrArg some (by kernel_rfl))⟩
  f17 := ⟨Try.f85.name, by decide, Try.func85.trans (congrArg some (by kernel_rfl))⟩
  f18 := ⟨Try.f86.name, by decide, Try.func86.trans (congrArg some (by kernel_rfl))⟩
  f19 := Try.func87.trans (congrArg some (by kernel_rfl))
  f20 := Try.func88.trans (congrArg some (by kernel_rfl))
  f30 := ⟨Try.f91.name, by decide, Try.func91.trans (congrArg some (by kernel_rfl))⟩
  f31 := Try.func92.trans (congrArg some (by kernel_rfl))
  f32 := Try.func93.trans (congrArg some (by kernel_rfl))
  f33 := ⟨Try.f94.name, by decide, Try.func94.trans (congrArg some (by kernel_rfl))⟩
  f34 := ⟨Try.f95.name, by decide, Try.func95.trans (congrArg some (by kernel_rfl))⟩
  f35 := ⟨Try.f96.name, by decide, Try.func96.trans (congrArg some (by kernel_rfl))⟩
  f40 := ⟨Try.f99.name, by decide, Try.func99.trans (congrArg some (by kernel_rfl))⟩
  t0 := Try.underlying0
  a0 := Try.isAgg0
  z0 := Try.sizeOf0
  v0 := Try.zeroValue0
  t3 := Try.underlying3
  a3 := Try.isAgg3
  z3 := Try.sizeOf3
  v3 := Try.zeroValue3
  t4 := Try.underlying4
  a4 := Try.isAgg4
  z4 := Try.sizeOf4
  v4 := Try.zeroValue4
  t5 := Try.underlying5
  a5 := Try.isAgg5
  z5 := Try.sizeOf5
  v5 := Try.zeroValue5
  t9 := Try.underlying9
  a9 := Try.isAgg9
  z9 := Try.sizeOf9
  v9 := Try.zeroValue9
  t22 := Try.underlying28
  a22 := Try.isAgg28
  z22 := Try.sizeOf28
  v22 := Try.zeroValue28
  t23 := Try.underlying28
  a23 := Try.isAgg28
  z23 := Try.sizeOf28
  v23 := Try.zeroValue28
  t25 := Try.underlying3
  a25 := Try.isAgg3
  z25 := Try.sizeOf3
  v25 := Try.zeroValue3
  t32 := Try.underlying93
  a32 := Try.isAgg93
  z32 := Try.sizeOf93
  v32 := Try.zeroValue93
  t35 := Try.underlying104
  a35 := Try.isAgg104
  z35 := Try.sizeOf104
  v35 := Try.zeroValue104
  t36 := Try.underlying105
  a36 := Try.isAgg105
  z36 := Try.sizeOf105
  v36 := Try.zeroValue105
  t41 := Try.underlying110
  a41 := Try.isAgg110
  z41 := Try.sizeOf110
  v41 := Try.zeroValue110
  t44 := Try.underlying113
  a44 := Try.isAgg113
  z44 := Try.sizeOf113
  v44 := Try.zeroValue113
  t46 := Try.underlying25
  a46 := Try.isAgg25
  z46 := Try.sizeOf25
  v46 := Try.zeroValue25
  t53 := Try.underlying117
  a53 := Try.isAgg117
  z53 := Try.sizeOf117
  v53 := Try.zeroValue117
  t57 := Try.underlying121
  a57 := Try.isAgg121
  z57 := Try.sizeOf121
  v57 := Try.zeroValue121
  t63 := Try.underlying123
  a63 := Try.isAgg123
  z63 := Try.sizeOf123
  v63 := Try.zeroValue123
  t64 := Try.underlying124
  a64 := Try.isAgg124
  z64 := Try.sizeOf124
  v64 := Try.zeroValue124 }
end Go.Proofs
