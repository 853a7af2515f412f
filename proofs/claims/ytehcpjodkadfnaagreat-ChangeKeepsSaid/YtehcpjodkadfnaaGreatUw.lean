/- Merged out of: Nk. -/
import Derived.Test.YtehcpjodkadfnaaGreatUv
/- Layer 8 of the heap, changes: fields ordered anew. -/
set_option linter.unusedSimpArgs false
set_option linter.unusedVariables false
set_option maxRecDepth 100000
namespace Go.Proofs.YtehcpjodkadfnaaGreat
open Go.RowKit Go.Lib

theorem own_some1 {w : World} {base n : Nat} {T : TypeId} {v : Value} {q : List Int} (h : w.ownsRow base T 1 v n (cellsI q)) {k : Nat} {x : Int} (hk : q[k]? = some x) : ∃ ad c, v = .slice (some ad) n c ∧ w.cell? (ad.add k) = some (.int .i64 x) := by
  obtain ⟨A, c, rfl, _, _, hr⟩ := own_rd h
  have : (cellsI q)[k]? = some (.int .i64 x) := by simp [cellsI, hk]
  obtain ⟨ad, rfl, hc⟩ := hr.at this
  exact ⟨ad, c, rfl, hc⟩
set_option maxHeartbeats 8000000 in
theorem orders_no (l : List Fd) (c : Ch) (m : Nat) (hm : l.length = m) (h16 : m ≤ 16) (B : Option Addr) (d : Nat) (C2 : Option Addr) (e2 f2 : Nat) (C3 : Option Addr) (e3 f3 : Nat) (Q : Option Addr) (n qc : Nat) (hn : c.q.length = n) (hn1 : n ≤ 4398046511104) (hqc : n ≤ qc) (w : World) (R1 : Rd w B (cellsF l)) (RQ : Rd w Q (cellsI c.q)) (r2 r3 : Option Nat) (P : Nat → Prop) (hP1 : ∀ ad, B = some ad → P ad.block) (hPn : ∀ g, w.heap.size ≤ g → P g) (hq : permB c.q m = false) :
    Calls Tryz.prog 39 #[.agg #[.slice B m d, .slice C2 e2 f2, .slice C3 e3 f3], .agg #[.int .i64 c.op, .string c.s, .string c.g.s, .int .i64 c.g.k, .int .i64 c.g.l, .int .i64 c.d.k, .int .u64 c.d.b, .string c.d.t, .slice Q n qc]] w fun e w' => StepP r2 r3 P Tb.z 80 w e w' := by
  have bb1 := below_new (w := w) (.cells #[.slice B m d, .slice C2 e2 f2, .slice C3 e3 f3] 36)
  have bb2 := below_new (w := w.alloc (.cells #[.slice B m d, .slice C2 e2 f2, .slice C3 e3 f3] 36)) (.cells #[.int .i64 c.op, .string c.s, .string c.g.s, .int .i64 c.g.k, .int .i64 c.g.l, .int .i64 c.d.k, .int .u64 c.d.b, .string c.d.t, .slice Q n qc] 57)
  have bb3 := below_new (w := (w.alloc (.cells #[.slice B m d, .slice C2 e2 f2, .slice C3 e3 f3] 36)).alloc (.cells #[.int .i64 c.op, .string c.s, .string c.g.s, .int .i64 c.g.k, .int .i64 c.g.l, .int .i64 c.d.k, .int .u64 c.d.b, .string c.d.t, .slice Q n qc] 57)) (.cells #[.slice none 0 0, .slice none 0 0, .slice none 0 0] 36)
  have T1 := ((OBox.new w [.slice B m d, .slice C2 e2 f2, .slice C3 e3 f3] 36).below bb2).below bb3
  have C1 : CBox _ _ c (.slice Q n qc) 57 := (OBox.new (w.alloc (.cells #[.slice B m d, .slice C2 e2 f2, .slice C3 e3 f3] 36)) (chL c (.slice Q n qc)) 57).below bb3
  have N1 := OBox.new ((w.alloc (.cells #[.slice B m d, .slice C2 e2 f2, .slice C3 e3 f3] 36)).alloc (.cells #[.int .i64 c.op, .string c.s, .string c.g.s, .int .i64 c.g.k, .int .i64 c.g.l, .int .i64 c.d.k, .int .u64 c.d.b, .string c.d.t, .slice Q n qc] 57)) [.slice none 0 0, .slice none 0 0, .slice none 0 0] 36
  have HB := below_seq (below_seq bb1 bb2) bb3
  rw [World.size_alloc] at C1
  rw [World.size_alloc, World.size_alloc] at N1
  obtain ⟨i1, i2, i3, j1, j2, j3⟩ := T1.f3
  obtain ⟨n1, n2, n3, o1, o2, o3⟩ := N1.f3
  obtain ⟨a0, a1, a2, a3, a4, a5, a6, a7, a8⟩ := C1.c9
  have RQ1 := RQ.below HB
  have HM := Lib.hid hm
  have HN := Lib.hid hn
  have HQ : Hid (¬ (n = m ∧ ∀ k : Nat, k < n → (c.q.mergeSort fun x y => decide (x ≤ y))[k]? = some (k : Int))) := Lib.hid (fun h => by
    have := (sorted_rng (q := c.q) (m := m)).2 (by rw [hn]; exact h)
    rw [hq] at this; cases this)
  clear hm hn bb1 bb2 bb3 hq hP1 hPn
  go_enter Tryz.func39, Tryz.ntmps39
  go_wp2_with (go_at_call 66; refine (CloneI_m Q qc n c.q HN.out _ RQ1 hn1 hqc).mono ?_)
  rintro e W1 ⟨S, sc, rfl, own1, hb⟩
  replace HB := HB.trans (hb.mono HB.size)
  replace T1 := T1.below hb
  replace C1 := C1.below hb
  replace N1 := N1.below hb
  have szc := N1.lt
  have lt1 := own_lt own1
  have bs1 : ∀ g, (Value.slice S n sc).ownBlock = some g → w.heap.size + 2 < g := fun g hg => by
    have := own_base own1 g hg; simp at this; omega
  clear hb i1 i2 i3 j1 j2 j3 n1 n2 n3 o1 o2 o3 a0 a1 a2 a3 a4 a5 a6 a7 a8 RQ1
  obtain ⟨i1, i2, i3, j1, j2, j3⟩ := T1.f3
  obtain ⟨a0, a1, a2, a3, a4, a5, a6, a7, a8⟩ := C1.c9
  go_wp2_with (go_at_call 67; refine (SortI_m _ n c.q HN.out _ _ own1 (by omega)).mono ?_)
  rintro e W2 ⟨rfl, own2, gr⟩
  have HB2 := HB.grown gr HB.size (fun g hg => by have := bs1 g hg; omega)
  have T2 := T1.grown gr (by intro e; have := bs1 _ e.symm; omega)
  have C2' : CBox W2 _ c (.slice Q n qc) 57 := OBox.grown C1 gr (by intro e; have := bs1 _ e.symm; omega)
  have N2 := N1.grown gr (by intro e; have := bs1 _ e.symm; omega)
  clear T1 C1 N1 HB own1 gr i1 i2 i3 j1 j2 j3 a0 a1 a2 a3 a4 a5 a6 a7 a8
  obtain ⟨ss, hss⟩ : ∃ ss, (c.q.mergeSort fun x y => decide (x ≤ y)) = ss := ⟨_, rfl⟩
  have hsl : ss.length = n := by rw [← hss, List.length_mergeSort, HN.out]
  rw [hss] at own2 HQ
  clear hss
  have HSL := Lib.hid hsl
  clear hsl
  have O := OBox.new W2 [.slice B m d, .slice none 0 0, .slice none 0 0] 36
  have nb := below_new (w := W2) (.cells #[.slice B m d, .slice none 0 0, .slice none 0 0] 36)
  obtain ⟨i1, i2, i3, j1, j2, j3⟩ := T2.f3
  replace T2 := T2.below nb
  have C3' := C2'.below nb
  have N3 := N2.below nb
  have own3 := own_below own2 nb
  have HB3 := HB2.trans (nb.mono HB2.size)
  clear nb C2' N2 own2 HB2
  obtain ⟨p1, p2, p3, q1, q2, q3⟩ := T2.f3
  obtain ⟨n1, n2, n3, o1, o2, o3⟩ := N3.f3
  obtain ⟨a0, a1, a2, a3, a4, a5, a6, a7, a8⟩ := C3'.c9
  go_wp2
  go_loopw [8, 9, 22] (fun _ _ i wr => ∃ k : Nat, k ≤ n ∧ i = .int .i64 k ∧ wr = W2.alloc (.cells #[.slice B m d, .slice none 0 0, .slice none 0 0] 36) ∧ Hid (∀ j : Nat, j < k → ss[j]? = some (j : Int)) ∧ Hid (k = 0 ∨ n = m)) (fun _ _ i _ => n - (intOf i).toNat)
  case atStart => exact ⟨0, by omega, rfl, rfl, Lib.hid (fun j hj => by omega), Lib.hid (.inl rfl)⟩
  case round =>
    obtain ⟨k, hk, rfl, rfl, hall, h0⟩ := hrel
    by_cases hlt : k < n
    · obtain ⟨x, hx⟩ : ∃ x, ss[k]? = some x := ⟨_, List.getElem?_eq_getElem (by rw [HSL.out]; exact hlt)⟩
      obtain ⟨ad, sc', e1, hc⟩ := own_some1 own3 hx
      cases e1
      have hi0 : (0 : Int) ≤ (k : Int) := by omega
      have hi1 : (k : Int) < (n : Int) := by omega
      by_cases hxk : x = (k : Int)
      · have y1 : (x != (k : Int)) = false := by simp [hxk]
        by_cases hnm : n = m
        · have y2 : ((n : Int) != (m : Int)) = false := by simp [hnm]
          have hall2 : Hid (∀ j : Nat, j < k + 1 → ss[j]? = some (j : Int)) := Lib.hid (fun j hj => by
            rcases (by omega : j < k ∨ j = k) with h | rfl
            · exact hall.out j h
            · rw [hx, hxk])
          have h02 : Hid (k + 1 = 0 ∨ n = m) := Lib.hid (.inr hnm)
          clear hxk hnm hall h0 hx
          go_wp2
          go_roundw
          case rel => exact ⟨k + 1, by omega, by go_num, by trivial, hall2, h02⟩
          case measure => simp [intOf]; omega
        · have y2 : ((n : Int) != (m : Int)) = true := by simp; omega
          clear hxk hnm hall h0 hx
          go_wp2
          refine bodyPost_ret (v := .tuple #[.agg #[.slice B m d, .slice C2 e2 f2, .slice C3 e3 f3], .int .i64 80]) (by simp [results, Tryz.results39, go_sem, *]; done) rfl ⟨_, _, _, _, _, _, _, _, _, rfl, fun h => absurd h (by decide), Only.of ?_⟩
          exact ((HB3.setCell (by show w.heap.size ≤ w.heap.size + 2; omega) _).setCell (by show w.heap.size ≤ w.heap.size + 2; omega) _).setCell (by show w.heap.size ≤ w.heap.size + 2; omega) _
      · have y1 : (x != (k : Int)) = true := by simp [hxk]
        clear hxk hall h0 hx
        go_wp2
        refine bodyPost_ret (v := .tuple #[.agg #[.slice B m d, .slice C2 e2 f2, .slice C3 e3 f3], .int .i64 80]) (by simp [results, Tryz.results39, go_sem, *]; done) rfl ⟨_, _, _, _, _, _, _, _, _, rfl, fun h => absurd h (by decide), Only.of ?_⟩
        exact ((HB3.setCell (by show w.heap.size ≤ w.heap.size + 2; omega) _).setCell (by show w.heap.size ≤ w.heap.size + 2; omega) _).setCell (by show w.heap.size ≤ w.heap.size + 2; omega) _
    · obtain rfl : k = n := by omega
      have hnm : ¬ k = m := fun e => HQ.out ⟨e, hall.out⟩
      obtain rfl : k = 0 := by
        rcases h0.out with h | h
        · exact h
        · exact absurd h hnm
      have y2 : ((0 : Int) != (m : Int)) = true := by simp; omega
      clear hall h0 hlt HQ
      go_wp2
      go_loopw [11, 43] (fun _ i wr => i = .int .i64 0 ∧ wr = W2.alloc (.cells #[.slice B m d, .slice none 0 0, .slice none 0 0] 36)) (fun _ _ _ => 0)
      case atStart => exact ⟨rfl, rfl⟩
      case round =>
        obtain ⟨rfl, rfl⟩ := hrel
        go_wp2
        refine bodyPost_ret (v := .tuple #[.agg #[.slice B m d, .slice C2 e2 f2, .slice C3 e3 f3], .int .i64 80]) (by simp [results, Tryz.results39, go_sem, *]; done) rfl ⟨_, _, _, _, _, _, _, _, _, rfl, fun h => absurd h (by decide), Only.of ?_⟩
        exact ((HB3.setCell (by show w.heap.size ≤ w.heap.size + 2; omega) _).setCell (by show w.heap.size ≤ w.heap.size + 2; omega) _).setCell (by show w.heap.size ≤ w.heap.size + 2; omega) _
set_option maxHeartbeats 8000000 in
theorem orders_yes (l : List Fd) (c : Ch) (m : Nat) (hm : l.length = m) (h16 : m ≤ 16) (B : Option Addr) (d : Nat) (C2 : Option Addr) (e2 f2 : Nat) (C3 : Option Addr) (e3 f3 : Nat) (Q : Option Addr) (n qc : Nat) (hn : c.q.length = n) (hn1 : n ≤ 4398046511104) (hqc : n ≤ qc) (w : World) (R1 : Rd w B (cellsF l)) (RQ : Rd w Q (cellsI c.q)) (r2 r3 : Option Nat) (P : Nat → Prop) (hP1 : ∀ ad, B = some ad → P ad.block) (hPn : ∀ g, w.heap.size ≤ g → P g) (hq : permB c.q m = true) :
    Calls Tryz.prog 39 #[.agg #[.slice B m d, .slice C2 e2 f2, .slice C3 e3 f3], .agg #[.int .i64 c.op, .string c.s, .string c.g.s, .int .i64 c.g.k, .int .i64 c.g.l, .int .i64 c.d.k, .int .u64 c.d.b, .string c.d.t, .slice Q n qc]] w fun e w' => StepP r2 r3 P ⟨l, c.q.map fun x => (l[x.toNat]?).getD Fd.z, c.q.map fun x => ⟨x, Vl.z⟩⟩ 0 w e w' := by
  have bb1 := below_new (w := w) (.cells #[.slice B m d, .slice C2 e2 f2, .slice C3 e3 f3] 36)
  have bb2 := below_new (w := w.alloc (.cells #[.slice B m d, .slice C2 e2 f2, .slice C3 e3 f3] 36)) (.cells #[.int .i64 c.op, .string c.s, .string c.g.s, .int .i64 c.g.k, .int .i64 c.g.l, .int .i64 c.d.k, .int .u64 c.d.b, .string c.d.t, .slice Q n qc] 57)
  have bb3 := below_new (w := (w.alloc (.cells #[.slice B m d, .slice C2 e2 f2, .slice C3 e3 f3] 36)).alloc (.cells #[.int .i64 c.op, .string c.s, .string c.g.s, .int .i64 c.g.k, .int .i64 c.g.l, .int .i64 c.d.k, .int .u64 c.d.b, .string c.d.t, .slice Q n qc] 57)) (.cells #[.slice none 0 0, .slice none 0 0, .slice none 0 0] 36)
  have T1 := ((OBox.new w [.slice B m d, .slice C2 e2 f2, .slice C3 e3 f3] 36).below bb2).below bb3
  have C1 : CBox _ _ c (.slice Q n qc) 57 := (OBox.new (w.alloc (.cells #[.slice B m d, .slice C2 e2 f2, .slice C3 e3 f3] 36)) (chL c (.slice Q n qc)) 57).below bb3
  have N1 := OBox.new ((w.alloc (.cells #[.slice B m d, .slice C2 e2 f2, .slice C3 e3 f3] 36)).alloc (.cells #[.int .i64 c.op, .string c.s, .string c.g.s, .int .i64 c.g.k, .int .i64 c.g.l, .int .i64 c.d.k, .int .u64 c.d.b, .string c.d.t, .slice Q n qc] 57)) [.slice none 0 0, .slice none 0 0, .slice none 0 0] 36
  have HB := below_seq (below_seq bb1 bb2) bb3
  rw [World.size_alloc] at C1
  rw [World.size_alloc, World.size_alloc] at N1
  obtain ⟨i1, i2, i3, j1, j2, j3⟩ := T1.f3
  obtain ⟨n1, n2, n3, o1, o2, o3⟩ := N1.f3
  obtain ⟨a0, a1, a2, a3, a4, a5, a6, a7, a8⟩ := C1.c9
  have RQ1 := RQ.below HB
  have HM := Lib.hid hm
  have HN := Lib.hid hn
  have HQ : Hid (∀ k : Nat, k < n → (c.q.mergeSort fun x y => decide (x ≤ y))[k]? = some (k : Int)) := Lib.hid (fun k hk => ((sorted_rng (q := c.q) (m := m)).1 hq).2 k (by omega))
  have HX : Hid (∀ x ∈ c.q, 0 ≤ x ∧ x < m) := Lib.hid (fun x hx => perm_mem hq hx)
  obtain rfl : n = m := by rw [← hn]; exact perm_len hq
  have HP1 := Lib.hid hP1
  have HPN := Lib.hid hPn
  obtain ⟨iF, hiF, hzF0, hzF1, hzF2⟩ := info_parts infoFd
  obtain ⟨iM, hiM, hzM0, hzM1, hzM2⟩ := info_parts infoMv
  clear hm hn bb1 bb2 bb3 hq hP1 hPn
  go_enter Tryz.func39, Tryz.ntmps39
  go_wp2_with (go_at_call 66; refine (CloneI_m Q qc n c.q HN.out _ RQ1 hn1 hqc).mono ?_)
  rintro e W1 ⟨S, sc, rfl, own1, hb⟩
  replace HB := HB.trans (hb.mono HB.size)
  replace T1 := T1.below hb
  replace C1 := C1.below hb
  replace N1 := N1.below hb
  have szc := N1.lt
  have lt1 := own_lt own1
  have bs1 : ∀ g, (Value.slice S n sc).ownBlock = some g → w.heap.size + 2 < g := fun g hg => by
    have := own_base own1 g hg; simp at this; omega
  clear hb i1 i2 i3 j1 j2 j3 n1 n2 n3 o1 o2 o3 a0 a1 a2 a3 a4 a5 a6 a7 a8 RQ1
  obtain ⟨i1, i2, i3, j1, j2, j3⟩ := T1.f3
  obtain ⟨a0, a1, a2, a3, a4, a5, a6, a7, a8⟩ := C1.c9
  go_wp2_with (go_at_call 67; refine (SortI_m _ n c.q HN.out _ _ own1 (by omega)).mono ?_)
  rintro e W2 ⟨rfl, own2, gr⟩
  have HB2 := HB.grown gr HB.size (fun g hg => by have := bs1 g hg; omega)
  have T2 := T1.grown gr (by intro e; have := bs1 _ e.symm; omega)
  have C2' : CBox W2 _ c (.slice Q n qc) 57 := OBox.grown C1 gr (by intro e; have := bs1 _ e.symm; omega)
  have N2 := N1.grown gr (by intro e; have := bs1 _ e.symm; omega)
  clear T1 C1 N1 HB own1 gr i1 i2 i3 j1 j2 j3 a0 a1 a2 a3 a4 a5 a6 a7 a8
  obtain ⟨ss, hss⟩ : ∃ ss, (c.q.mergeSort fun x y => decide (x ≤ y)) = ss := ⟨_, rfl⟩
  have hsl : ss.length = n := by rw [← hss, List.length_mergeSort, HN.out]
  rw [hss] at own2 HQ
  clear hss
  have HSL := Lib.hid hsl
  clear hsl
  have sz2 : w.heap.size + 2 < W2.heap.size := N2.lt
  have O := OBox.new W2 [.slice B n d, .slice none 0 0, .slice none 0 0] 36
  have nb := below_new (w := W2) (.cells #[.slice B n d, .slice none 0 0, .slice none 0 0] 36)
  obtain ⟨i1, i2, i3, j1, j2, j3⟩ := T2.f3
  replace T2 := T2.below nb
  have C3' := C2'.below nb
  have N3 := N2.below nb
  have own3 := own_below own2 nb
  have HB3 := HB2.trans (nb.mono HB2.size)
  clear nb C2' N2 own2 HB2
  obtain ⟨p1, p2, p3, q1, q2, q3⟩ := T2.f3
  obtain ⟨a0, a1, a2, a3, a4, a5, a6, a7, a8⟩ := C3'.c9
  go_wp2
  go_loopw [8, 9, 22] (fun _ _ i wr => ∃ k : Nat, k ≤ n ∧ i = .int .i64 k ∧ wr = W2.alloc (.cells #[.slice B n d, .slice none 0 0, .slice none 0 0] 36)) (fun _ _ i _ => n - (intOf i).toNat)
  case atStart => exact ⟨0, by omega, rfl, rfl⟩
  case round =>
    obtain ⟨k, hk, rfl, rfl⟩ := hrel
    by_cases hlt : k < n
    · obtain ⟨ad, sc', y1, hc⟩ := own_some1 own3 (HQ.out k hlt)
      cases y1
      have hi0 : (0 : Int) ≤ (k : Int) := by omega
      have hi1 : (k : Int) < (n : Int) := by omega
      have y1 : ((k : Int) != (k : Int)) = false := by simp
      have y2 : ((n : Int) != (n : Int)) = false := by simp
      go_wp2
      go_roundw
      case rel => exact ⟨k + 1, by omega, by go_num, by trivial⟩
      case measure => simp [intOf]; omega
    · obtain rfl : k = n := by omega
      clear hlt HQ own3
      go_wp2
      have O0 := O
      have N0 := N3
      have C0 := C3'
      have T0 := T2
      have HB0 := HB3
      clear O N3 C3' T2 HB3 i1 i2 i3 j1 j2 j3 p1 p2 p3 q1 q2 q3 a0 a1 a2 a3 a4 a5 a6 a7 a8 hk
      go_loopw [11, 43] (fun _ i wr => ∃ (j : Nat) (vF vM : Value), j ≤ k ∧ i = .int .i64 j ∧ wr.ownsRow (W2.heap.size + 1) 29 3 vF j (cellsF ((c.q.take j).map fun x => (l[x.toNat]?).getD Fd.z)) ∧ wr.ownsRow (W2.heap.size + 1) 61 4 vM j (cellsM ((c.q.take j).map fun x => ⟨x, Vl.z⟩)) ∧ Hid (∀ g, vF.ownBlock = some g → vM.ownBlock ≠ some g) ∧
        OBox wr W2.heap.size [.slice B k d, vF, vM] 36 ∧ OBox wr (w.heap.size + 2) [.slice none 0 0, .slice none 0 0, .slice none 0 0] 36 ∧ CBox wr (w.heap.size + 1) c (.slice Q k qc) 57 ∧ OBox wr w.heap.size [.slice B k d, .slice C2 e2 f2, .slice C3 e3 f3] 36 ∧ Below w.heap.size w wr) (fun _ i _ => k - (intOf i).toNat)
      case atStart => exact ⟨0, _, _, by omega, rfl, own_nil _ _ _ _, own_nil _ _ _ _, Lib.hid (fun g hg => by simp [Value.ownBlock] at hg), O0, N0, C0, T0, HB0⟩
      case round =>
        obtain ⟨j, vF, vM, hj, rfl, ownF, ownM, hap, O, N, C, T, HB⟩ := hrel
        clear O0 N0 C0 T0 HB0
        have RQr := RQ.below HB
        have Rr := R1.below HB
        by_cases hlt : j < k
        · obtain ⟨x, hx⟩ : ∃ x, c.q[j]? = some x := ⟨_, List.getElem?_eq_getElem (by rw [HN.out]; exact hlt)⟩
          obtain ⟨x0, x1⟩ := HX.out x (List.mem_of_getElem? hx)
          obtain ⟨f, hf⟩ : ∃ f, l[x.toNat]? = some f := ⟨_, List.getElem?_eq_getElem (by rw [HM.out]; omega)⟩
          have hq0 : (cellsI c.q)[j]? = some (.int .i64 x) := by simp [cellsI, hx]
          obtain ⟨qd, rfl, hqc'⟩ := RQr.at hq0
          obtain ⟨ad, rfl, g0, g1, g2⟩ := Rr.fld hf
          have hi0 : (0 : Int) ≤ (j : Int) := by omega
          have hi1 : (j : Int) < (k : Int) := by omega
          have HF : Hid ((c.q.take (j + 1)).map (fun x => (l[x.toNat]?).getD Fd.z) = (c.q.take j).map (fun x => (l[x.toNat]?).getD Fd.z) ++ [f]) := Lib.hid (by rw [List.take_add_one, hx]; simp [hf])
          have HMv : Hid ((c.q.take (j + 1)).map (fun x => (⟨x, Vl.z⟩ : Mv)) = (c.q.take j).map (fun x => ⟨x, Vl.z⟩) ++ [⟨x, Vl.z⟩]) := Lib.hid (by rw [List.take_add_one, hx]; simp)
          clear hx hf hq0
          obtain ⟨i1, i2, i3, j1, j2, j3⟩ := O.f3
          obtain ⟨a0, a1, a2, a3, a4, a5, a6, a7, a8⟩ := C.c9
          obtain ⟨p1, p2, p3, q1, q2, q3⟩ := T.f3
          have hx1 : x < (k : Int) := x1
          have nf := below_new (w := wr.drew) (.cells #[.string f.s, .int .i64 f.k, .int .i64 f.l] 29)
          have ownF1 : (wr.drew.alloc (.cells #[.string f.s, .int .i64 f.k, .int .i64 f.l] 29)).ownsRow _ _ _ vF j _ := own_below (w := wr.drew) ownF nf
          have ownM1 : (wr.drew.alloc (.cells #[.string f.s, .int .i64 f.k, .int .i64 f.l] 29)).ownsRow _ _ _ vM j _ := own_below (w := wr.drew) ownM nf
          have lF := own_lt ownF
          have lM := own_lt ownM
          have bF := own_base ownF
          have bM := own_base ownM
          have On := OBox.below (w := wr.drew) O nf
          have Nn := OBox.below (w := wr.drew) N nf
          have Cn := OBox.below (w := wr.drew) C nf
          have Tn := OBox.below (w := wr.drew) T nf
          have HBn := (Below.drew HB).trans (nf.mono HB.size)
          have hsz : W2.heap.size < wr.heap.size := O.lt
          have hbz : W2.heap.size + 1 ≤ (wr.drew.alloc (.cells #[.string f.s, .int .i64 f.k, .int .i64 f.l] 29)).heap.size := by have := nf.size; have e : wr.drew.heap.size = wr.heap.size := rfl; omega
          have hone : ∀ u ∈ [Value.string f.s, .int .i64 f.k, .int .i64 f.l], u.oneCell' = true := by intro u hu; simp at hu; rcases hu with rfl | rfl | rfl <;> rfl
          have mixed : Tryz.prog.follows .mixedOrders = true := by kernel_rfl
          have hb63 : j + 1 ≤ maxLen := by simp only [maxLen]; omega
          clear O N C T HB ownF ownM nf
          go_wp2_with fail
          go_region_law_o (refine step_append_own rfl (.tmp 48) (.tmp 54) 22 rfl (W2.heap.size + 1) 29 iF (.agg #[.string ⟨#[]⟩, .int .i64 0, .int .i64 0]) 3 32 Tryz.underlying22 hiF hzF0 hzF1 hzF2 rfl (by decide) vF j _ (by simp [Act.eval, Act.put]) ownF1 ⟨wr.heap.size, 0, none⟩ 1 1 [.string f.s, .int .i64 f.k, .int .i64 f.l] (by simp [Act.eval, Act.put]) rfl (news3 wr.drew _ _ _ _) hone hb63 (by omega) hbz ?_; intro vF' W5 ownF5 gr5 hat5; have O5 := On.grown gr5 (by intro e; have := bF _ e.symm; omega); have N5 := Nn.grown gr5 (by intro e; have := bF _ e.symm; omega); have C5 : CBox W5 (w.heap.size + 1) c (.slice (some qd) k qc) 57 := OBox.grown Cn gr5 (by intro e; have := bF _ e.symm; omega); have T5 := Tn.grown gr5 (by intro e; have := bF _ e.symm; omega); have ownM5 := own_grown ownM1 gr5 (by intro g hg e; exact hap.out g e.symm hg); have HB5 := HBn.grown gr5 (by have := HBn.size; omega) (fun g hg => by have := bF g hg; omega); have hap5 : Hid (∀ g, vF'.ownBlock = some g → vM.ownBlock ≠ some g) := Lib.hid (fun g hg hm => by rcases hat5 with h | h; exact hap.out g (by rw [← h]; exact hg) hm; rw [hg] at h; have h := Option.some.inj h; have := lM g hm; simp at h; omega); obtain ⟨F5, c5, rfl, _, _, _⟩ := own_rd ownF5; have z5 : W2.heap.size < W5.heap.size := O5.lt; have bF5 : ∀ g, (Value.slice F5 (j + 1) c5).ownBlock = some g → W2.heap.size + 1 ≤ g := own_base ownF5; clear gr5 hat5 On Nn Cn Tn ownF1 ownM1 HBn i1 i2 i3 j1 j2 j3 a0 a1 a2 a3 a4 a5 a6 a7 a8 p1 p2 p3 q1 q2 q3; obtain ⟨i1, i2, i3, j1, j2, j3⟩ := O5.f3)
          all_goals
            have O6 := obox_set O5 1 (.slice F5 (j + 1) c5)
            have N6 : OBox (W5.setCell ⟨W2.heap.size, 1, none⟩ (.slice F5 (j + 1) c5)) (w.heap.size + 2) _ 36 := (Below.heap_setCell _ _ _ _ (by show w.heap.size + 2 ≠ W2.heap.size; omega)).trans N5
            have C6 : CBox (W5.setCell ⟨W2.heap.size, 1, none⟩ (.slice F5 (j + 1) c5)) (w.heap.size + 1) c (.slice (some qd) k qc) 57 := (Below.heap_setCell _ _ _ _ (by show w.heap.size + 1 ≠ W2.heap.size; omega)).trans C5
            have T6 : OBox (W5.setCell ⟨W2.heap.size, 1, none⟩ (.slice F5 (j + 1) c5)) w.heap.size _ 36 := (Below.heap_setCell _ _ _ _ (by show w.heap.size ≠ W2.heap.size; omega)).trans T5
            have ownF6 := own_keep (w1 := W5.setCell ⟨W2.heap.size, 1, none⟩ (.slice F5 (j + 1) c5)) ownF5 (fun g hg => Below.heap_setCell _ _ _ _ (by have := bF5 g hg; show g ≠ W2.heap.size; omega))
            have ownM6 := own_keep (w1 := W5.setCell ⟨W2.heap.size, 1, none⟩ (.slice F5 (j + 1) c5)) ownM5 (fun g hg => Below.heap_setCell _ _ _ _ (by have := bM g hg; show g ≠ W2.heap.size; omega))
            have HB6 := HB5.setCell (p := ⟨W2.heap.size, 1, none⟩) (by show w.heap.size ≤ W2.heap.size; omega) (.slice F5 (j + 1) c5)
            have z6 : Hid (W5.heap.size = (W5.setCell ⟨W2.heap.size, 1, none⟩ (.slice F5 (j + 1) c5)).heap.size) := Lib.hid (by simp)
            have nm := below_new (w := W5.setCell ⟨W2.heap.size, 1, none⟩ (.slice F5 (j + 1) c5)) (.cells #[.int .i64 x, .int .i64 0, .int .u64 0, .string ⟨#[]⟩] 61)
            have lF6 := own_lt ownF6
            have lM6 := own_lt ownM6
            obtain ⟨p1, p2, p3, q1, q2, q3⟩ := O6.f3
            obtain ⟨s1, s2, s3, u1, u2, u3⟩ := (O6.below nm).f3
            clear i1 i2 i3 j1 j2 j3 O5 N5 C5 T5 ownM5 ownF5 HB5
            go_wp2_with (at_builtin; refine wpList_append_own_at _ rfl _ _ 34 rfl (W2.heap.size + 1) 61 iM (.agg #[.int .i64 0, .int .i64 0, .int .u64 0, .string ⟨#[]⟩]) 4 40 Tryz.underlying34 hiM hzM0 hzM1 hzM2 rfl (by decide) _ _ _ rfl (own_below ownM6 nm) ⟨W5.heap.size, 0, none⟩ 1 1 [.int .i64 x, .int .i64 0, .int .u64 0, .string ⟨#[]⟩] rfl rfl ?c1 ?c2 ?c3 ?c4 ?c5 ?_)
            case c1 => rw [z6.out]; exact news4 _ _ _ _ _ _
            case c2 => intro u hu; simp at hu; rcases hu with rfl | rfl | rfl | rfl <;> rfl
            case c3 => exact hb63
            case c4 => omega
            case c5 => have := nm.size; have := z6.out; omega
            intro vM' W7 ownM7 gr7 _ hat7
            have O7 := (O6.below nm).grown gr7 (by intro e; have := bM _ e.symm; omega)
            have N7 := (OBox.below N6 nm).grown gr7 (by intro e; have := bM _ e.symm; omega)
            have C7 : CBox W7 (w.heap.size + 1) c (.slice (some qd) k qc) 57 := OBox.grown (C6.below nm) gr7 (by intro e; have := bM _ e.symm; omega)
            have T7 := (OBox.below T6 nm).grown gr7 (by intro e; have := bM _ e.symm; omega)
            have ownF7 := own_grown (own_below ownF6 nm) gr7 (by intro g hg e; exact hap5.out g hg e.symm)
            have HB7 := (HB6.trans (nm.mono HB6.size)).grown gr7 (by have := HB6.size; have := nm.size; omega) (fun g hg => by have := bM g hg; omega)
            have hap7 : Hid (∀ g, (Value.slice F5 (j + 1) c5).ownBlock = some g → vM'.ownBlock ≠ some g) := Lib.hid (fun g hg hm => by
              rcases hat7 with h | h
              · exact hap5.out g hg (by rw [← h]; exact hm)
              · rw [hm] at h; have h := Option.some.inj h; have := lF6 g hg; (try simp at h); (try simp at this); omega)
            have bM7 : ∀ g, vM'.ownBlock = some g → W2.heap.size + 1 ≤ g := own_base ownM7
            obtain ⟨M7, c7, rfl, _, _, _⟩ := own_rd ownM7
            clear p1 p2 p3 q1 q2 q3 s1 s2 s3 u1 u2 u3 O6 N6 C6 T6 ownM6 ownF6 HB6 nm gr7 hat7
            obtain ⟨i1, i2, i3, j1, j2, j3⟩ := O7.f3
            go_wp2
            go_roundw
            case rel =>
              refine ⟨j + 1, _, _, by omega, by go_num, ?_, ?_, hap7, obox_set O7 2 _, ?_, ?_, ?_, HB7.setCell (by show w.heap.size ≤ W2.heap.size; omega) _⟩
              · exact own_eq (own_keep ownF7 (fun g hg => Below.heap_setCell _ _ _ _ (by have := bF5 g hg; show g ≠ W2.heap.size; omega))) rfl (by rw [HF.out, cellsF_append]; (try simp only [List.map_take]); rfl)
              · exact own_eq (own_keep ownM7 (fun g hg => Below.heap_setCell _ _ _ _ (by have := bM7 g hg; show g ≠ W2.heap.size; omega))) rfl (by rw [HMv.out, cellsM_append]; (try simp only [List.map_take]); rfl)
              · exact (Below.heap_setCell _ _ _ _ (by show w.heap.size + 2 ≠ W2.heap.size; omega)).trans N7
              · exact (Below.heap_setCell _ _ _ _ (by show w.heap.size + 1 ≠ W2.heap.size; omega)).trans C7
              · exact (Below.heap_setCell _ _ _ _ (by show w.heap.size ≠ W2.heap.size; omega)).trans T7
            case measure => simp [intOf]; omega
        · obtain rfl : j = k := by omega
          have bF := own_base ownF
          have bM := own_base ownM
          obtain ⟨F5, c5, rfl, _, _, _⟩ := own_rd ownF
          obtain ⟨M5, e5, rfl, _, _, _⟩ := own_rd ownM
          obtain ⟨i1, i2, i3, j1, j2, j3⟩ := O.f3
          obtain ⟨p1, p2, p3, q1, q2, q3⟩ := T.f3
          obtain ⟨n1, n2, n3, o1, o2, o3⟩ := N.f3
          have y2 : ((j : Int) != (j : Int)) = false := by simp
          have hall : c.q.take j = c.q := List.take_of_length_le (by rw [HN.out]; exact Nat.le_refl _)
          rw [hall] at ownF ownM
          clear hall
          go_wp2
          refine bodyPost_ret (v := .tuple #[.agg #[.slice B j d, .slice F5 j c5, .slice M5 j e5], .int .i64 0]) (by simp [results, Tryz.results39, go_sem, *]; done) rfl ⟨_, _, _, _, _, _, _, _, _, rfl, fun _ => ?_, Only.of ?_⟩
          · refine own_TV (t := ⟨l, c.q.map fun x => (l[x.toNat]?).getD Fd.z, c.q.map fun x => ⟨x, Vl.z⟩⟩) HM.out ?_ HP1.out (own_keep ownF fun g hg => ?_) (by simp [HN.out]) (fun g hg => HPN.out g (by have := bF g hg; omega)) (own_keep ownM fun g hg => ?_) (by simp [HN.out]) (fun g hg => HPN.out g (by have := bM g hg; omega))
            · exact R1.below (((HB.setCell (by show w.heap.size ≤ w.heap.size + 2; omega) _).setCell (by show w.heap.size ≤ w.heap.size + 2; omega) _).setCell (by show w.heap.size ≤ w.heap.size + 2; omega) _)
            · have h := bF g hg
              exact (Below.heap_setCell _ _ _ _ (by show g ≠ w.heap.size + 2; omega)).trans ((Below.heap_setCell _ _ _ _ (by show g ≠ w.heap.size + 2; omega)).trans (Below.heap_setCell _ _ _ _ (by show g ≠ w.heap.size + 2; omega)))
            · have h := bM g hg
              exact (Below.heap_setCell _ _ _ _ (by show g ≠ w.heap.size + 2; omega)).trans ((Below.heap_setCell _ _ _ _ (by show g ≠ w.heap.size + 2; omega)).trans (Below.heap_setCell _ _ _ _ (by show g ≠ w.heap.size + 2; omega)))
          · exact ((HB.setCell (by show w.heap.size ≤ w.heap.size + 2; omega) _).setCell (by show w.heap.size ≤ w.heap.size + 2; omega) _).setCell (by show w.heap.size ≤ w.heap.size + 2; omega) _
end Go.Proofs.YtehcpjodkadfnaaGreat
