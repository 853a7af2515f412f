/- Merged out of: Nr. -/
import Derived.Test.YteembinfgbapgaaGreatM15
/- Layer 8 of the heap, changes: what the program makes of a change, walked case by case. -/
set_option linter.unusedSimpArgs false
set_option linter.unusedVariables false
set_option maxRecDepth 100000
namespace Go.Proofs.YteembinfgbapgaaGreat
open Go.RowKit Go.Lib Go.Maps

set_option maxHeartbeats 1000000 in
theorem Make_none4 (l : List Fd) (c : Ch) (m : Nat) (hm : l.length = m) (hl : m ≤ 9223372036854775807) (A : Option Addr) (cA : Nat) (hcA : m ≤ cA) (Q : Option Addr) (n qc : Nat) (hn : c.q.length = n) (hn1 : n ≤ 17592186044415) (hqc : n ≤ qc) (p0 : -9223372036854775808 ≤ c.op) (p1 : c.op ≤ 9223372036854775807) (x0 : 0 ≤ c.d.b) (x1 : c.d.b < 18446744073709551616) (w : World) (hA : Rd w A (cellsF l)) (RQ : Rd w Q (cellsI c.q)) (hop : c.op = 4) (hr : rightF l = true) (hz : findZ l c.s < 0) :
    Calls Tryz.prog 97 #[.slice A m cA, .agg #[.int .i64 c.op, .string c.s, .string c.g.s, .int .i64 c.g.k, .int .i64 c.g.l, .int .i64 c.d.k, .int .u64 c.d.b, .string c.d.t, .slice Q n qc]] w fun e w' => MkP Tb.z 61 w e w' := by
  have h16 : m ≤ 16 := by rw [← hm]; exact (rightF_may hr).2
  have bb1 := below_new (w := w) (.cells #[.int .i64 c.op, .string c.s, .string c.g.s, .int .i64 c.g.k, .int .i64 c.g.l, .int .i64 c.d.k, .int .u64 c.d.b, .string c.d.t, .slice Q n qc] 76)
  have bb2 := below_new (w := w.alloc (.cells #[.int .i64 c.op, .string c.s, .string c.g.s, .int .i64 c.g.k, .int .i64 c.g.l, .int .i64 c.d.k, .int .u64 c.d.b, .string c.d.t, .slice Q n qc] 76)) (.cells #[.slice none 0 0, .slice none 0 0, .slice none 0 0] 96)
  have C0 : CBox _ _ c (.slice Q n qc) 76 := (OBox.new w (chL c (.slice Q n qc)) 76).below bb2
  have N0 := OBox.new (w.alloc (.cells #[.int .i64 c.op, .string c.s, .string c.g.s, .int .i64 c.g.k, .int .i64 c.g.l, .int .i64 c.d.k, .int .u64 c.d.b, .string c.d.t, .slice Q n qc] 76)) [.slice none 0 0, .slice none 0 0, .slice none 0 0] 96
  rw [World.size_alloc] at N0
  have HB0 := below_seq bb1 bb2
  obtain ⟨V4, V6, V8, V10, V11, r4, r6, r8, r10, r11, M11, c11, d11, e11, B11⟩ := ways_made ((w.alloc (.cells #[.int .i64 c.op, .string c.s, .string c.g.s, .int .i64 c.g.k, .int .i64 c.g.l, .int .i64 c.d.k, .int .u64 c.d.b, .string c.d.t, .slice Q n qc] 76)).alloc (.cells #[.slice none 0 0, .slice none 0 0, .slice none 0 0] 96))
  have HB := below_seq HB0 B11
  have C1 := C0.below B11
  have N1 := N0.below B11
  have szV : w.heap.size + 1 < V11.heap.size := N1.lt
  have hA1 := hA.below HB
  have RQ1 := RQ.below HB
  have hmk := make_map
  obtain ⟨a0, a1, a2, a3, a4, a5, a6, a7, a8⟩ := C0.c9
  obtain ⟨A0, A1, A2, A3, A4, A5, A6, A7, A8⟩ := C1.c9
  obtain ⟨n1, n2, n3, o1, o2, o3⟩ := N1.f3
  have HM := Lib.hid hm
  have HN := Lib.hid hn
  have hlk0 : ∀ o : Int, o = 4 → (Instr.lookup 206 (.map (some ((w.alloc (.cells #[.int .i64 c.op, .string c.s, .string c.g.s, .int .i64 c.g.k, .int .i64 c.g.l, .int .i64 c.d.k, .int .u64 c.d.b, .string c.d.t, .slice Q n qc] 76)).alloc (.cells #[.slice none 0 0, .slice none 0 0, .slice none 0 0] 96)).heap.size)) (.int .i64 o) true).run Tryz.prog V11 = .ok (.tuple #[(.func (.func 161) #[] #[.pointer (some ⟨V8.heap.size, 0, none⟩)]), .bool true]) V11 := by
    rintro o rfl
    exact map_some keyed5 Tryz.underlying206 M11 (keys5 (ks := [1, 2, 3, 4, 5]) rfl (by simp)) (key5 (by omega) (by omega)) ⟨ent (.int .i64 4) (.func (.func 161) #[] #[.pointer (some ⟨V8.heap.size, 0, none⟩)]) 3, by simp, rfl⟩ (by intro x hx hk; simp at hx; rcases hx with rfl | rfl | rfl | rfl | rfl <;> first | rfl | (simp [ent] at hk)) true
  have hlk := hlk0 c.op hop
  clear hlk0
  simp only [World.size_alloc] at r4 r6 r8 r10 r11 hlk M11
  have HR := Lib.hid hr
  clear hr hop
  have HZ := Lib.hid hz
  clear hz
  go_enter Tryz.func97, Tryz.ntmps97
  go_upto_region 7 with (first
    | (go_at_call 136; refine (named_func _ _ _ _).mono ?_; rintro e w' ⟨rfl, rfl⟩)
    | (go_at_call 62; refine (Right_m A cA m l HM.out true HR.out _ hA1 hl).mono ?_; rintro e W0 ⟨rfl, hb⟩; replace HB := HB.trans (hb.mono HB.size); replace hA1 := hA1.below hb; replace RQ1 := RQ1.below hb; replace C1 := C1.below hb; replace N1 := N1.below hb; have c12 := cell_below (B := 0) hb c11; have d12 := cell_below (B := 0) hb d11; have e12 := cell_below (B := 0) hb e11; clear hb A0 A1 A2 A3 A4 A5 A6 A7 A8 n1 n2 n3 o1 o2 o3; obtain ⟨A0, A1, A2, A3, A4, A5, A6, A7, A8⟩ := C1.c9; obtain ⟨n1, n2, n3, o1, o2, o3⟩ := N1.f3))
  have szW : w.heap.size + 1 < W0.heap.size := N1.lt
  have hAd : Rd W0.drew A (cellsF l) := hA1
  have hAe : Rd (W0.drew.alloc (.cells #[.slice none 0 0, .slice none 0 0, .slice none 0 0] 96)) A (cellsF l) := Rd.below (w := W0.drew) hA1 (below_new _)
  have hAf : Rd (W0.alloc (.cells #[.slice none 0 0, .slice none 0 0, .slice none 0 0] 96)).drew A (cellsF l) := hA1.below (Below.drew (below_new _))
  obtain ⟨E0, E1, E2, E3, E4, E5, E6, E7, E8⟩ := (C1.below (below_new (.cells #[.slice none 0 0, .slice none 0 0, .slice none 0 0] 96))).c9
  clear a0 a1 a2 a3 a4 a5 a6 a7 a8 r4 r6 r8 r10 r11 hlk M11 c11 d11 e11 C0 N0 HB0 hmk B11
  go_cut [9, 10] (fun s9 s10 wx => ∃ p X0 y0 z0 X1 y1 z1 X2 y2 z2, s9 = .pointer (some ⟨p, 0, none⟩) ∧ s10 = .int .i64 61 ∧ OBox wx p [.slice X0 y0 z0, .slice X1 y1 z1, .slice X2 y2 z2] 96 ∧ Hid True ∧ OBox wx (w.heap.size + 1) [.slice none 0 0, .slice none 0 0, .slice none 0 0] 96 ∧ Below w.heap.size w wx)
  case first =>
    go_region_with (first
      | (go_at_call 45; refine (TSame_yes A cA m l HM.out HR.out _ (by with_reducible assumption) hl hcA).mono ?_; rintro e W1 ⟨B, d, v2, v3, b1, b2, rfl, hb1, hb12, hb2, R1, hBl, own2, lt2, own3, hbS⟩; obtain ⟨X2, z2, rfl, u1, u2, u3⟩ := own_rd own2; obtain ⟨X3, z3, rfl, u4, u5, u6⟩ := own_rd own3; clear u1 u2 u3 u4 u5 u6; (first | (have h01 : Below W0.heap.size W0 W1 := (by with_reducible exact Below.undrewS hbS); obtain ⟨a, haE, ha2, hBa⟩ : ∃ a, a = W0.heap.size ∧ a ≤ b1 ∧ (∀ ad, B = some ad → a ≤ ad.block) := ⟨_, rfl, hb1, fun ad e => (hBl ad e).1⟩) | (have h01 : Below W0.heap.size W0 W1 := (by first | with_reducible exact Below.undrewA hbS | with_reducible exact Below.undrewB hbS); obtain ⟨a, haE, ha2, hBa⟩ : ∃ a, a = W0.heap.size + 1 ∧ a ≤ b1 ∧ (∀ ad, B = some ad → a ≤ ad.block) := ⟨_, rfl, by simpa using hb1, fun ad e => by have := (hBl ad e).1; simp at this; omega⟩; have PBX : OBox W1 W0.heap.size [.slice none 0 0, .slice none 0 0, .slice none 0 0] 96 := (by first | with_reducible exact OBox.newA hbS | with_reducible exact OBox.newB hbS))); have ha0 : W0.heap.size ≤ a := (by omega); have hBu : ∀ ad, B = some ad → ad.block < W1.heap.size := (fun ad e => by have := (hBl ad e).2; omega); clear hb1 hBl hbS; have HAE := Lib.hid haE; clear haE; have C2 := C1.below h01; have C3 := C2.below (below_new (.cells #[.slice none 0 0, .slice none 0 0, .slice none 0 0] 96)); obtain ⟨G0, G1, G2, G3, G4, G5, G6, G7, G8⟩ := C2.c9; obtain ⟨K0, K1, K2, K3, K4, K5, K6, K7, K8⟩ := C3.c9)
      | (go_at_call 161; refine (named_no_at (by first | with_reducible exact Below.refl _ _ | with_reducible exact below_new _) l c m HM.out h16 B d b1 b2 a _ _ Q n qc HN.out hn1 hqc (RQ1.below h01) ha2 hb12 hb2 R1 hBa own2 lt2 own3 x0 x1 hBu V8.heap.size _ (cell_below (B := 0) h01 e12) HZ.out).mono ?_; rintro e W3 ⟨X0, y0, z0, X1, y1, z1, X4, y4, z4, rfl, hTV, hO⟩; have HT := Lib.hid hTV; clear hTV; (first | (have PB3 := PBX.only hO (by intro e; have := own_base own2 _ e.symm; have := HAE.out; omega) (by intro e; have := own_base own3 _ e.symm; have := HAE.out; omega); obtain ⟨s1, s2, s3, t1, t2, t3⟩ := PB3.f3) | (have PB3 : OBox W3 W1.heap.size [.slice none 0 0, .slice none 0 0, .slice none 0 0] 96 := (by refine OBox.only ?_ hO (by intro e; have := own_lt own2 _ e.symm; omega) (by intro e; have := own_lt own3 _ e.symm; omega); exact OBox.new _ _ _); obtain ⟨s1, s2, s3, t1, t2, t3⟩ := PB3.f3) | skip)))
    all_goals (go_wp2_with fail; go_meet; refine ⟨_, X0, y0, z0, X1, y1, z1, X4, y4, z4, rfl, rfl, ?_⟩)
    all_goals
      have hr2 : ∀ g, (Value.slice X2 m z2).ownBlock = some g → W0.heap.size ≤ g := fun g hg => by have := own_base own2 g hg; omega
      have hr3 : ∀ g, (Value.slice X3 m z3).ownBlock = some g → W0.heap.size ≤ g := fun g hg => by have := own_base own3 g hg; omega
      have haW : a ≤ W1.heap.size := by omega
      first
        | (obtain ⟨q1, q2, q3, q4⟩ := meet_make (x := .slice X0 y0 z0) (y := .slice X1 y1 z1) (z := .slice X4 y4 z4) HB ha0 haW szW h01 (by first | with_reducible exact Below.refl _ _ | with_reducible exact below_new _) hO hr2 hr3 HT.out (Below.refl _ _) PB3 (.inl (by have := HAE.out; omega)) (Nat.le_refl _) N1; exact ⟨q1, Lib.hid (True.intro), q3, q4⟩)
        | (obtain ⟨q1, q2, q3, q4⟩ := meet_make (x := .slice X0 y0 z0) (y := .slice X1 y1 z1) (z := .slice X4 y4 z4) HB ha0 haW szW h01 (by with_reducible exact below_new _) hO hr2 hr3 HT.out (Below.refl _ _) PB3 (.inr (.inl ⟨Nat.le_refl _, by simp⟩)) h01.size N1; exact ⟨q1, Lib.hid (True.intro), q3, q4⟩)
        | (obtain ⟨q1, q2, q3, q4⟩ := meet_last (x := .slice X0 y0 z0) (y := .slice X1 y1 z1) (z := .slice X4 y4 z4) (T := 96) HB ha0 haW szW h01 (by first | with_reducible exact Below.refl _ _ | with_reducible exact below_new _) hO hr2 hr3 HT.out N1; exact ⟨q1, Lib.hid (True.intro), q3, q4⟩)
  case rest =>
    clear RQ1 C1 HB N1 hA1 hAd hAe hAf c12 d12 e12 A0 A1 A2 A3 A4 A5 A6 A7 A8 n1 n2 n3 o1 o2 o3 E0 E1 E2 E3 E4 E5 E6 E7 E8 szW szV
    obtain ⟨p, X0, y0, z0, X1, y1, z1, X2, y2, z2, rfl, rfl, PB, HT, N1, HB⟩ := hcut
    obtain ⟨i1, i2, i3, j1, j2, j3⟩ := PB.f3
    obtain ⟨n1, n2, n3, o1, o2, o3⟩ := N1.f3
    go_wp2
    refine bodyPost_ret (v := .tuple #[.agg #[.slice none 0 0, .slice none 0 0, .slice none 0 0], .int .i64 61]) (by simp [results, Tryz.results97, go_sem, *]; done) rfl ⟨_, _, _, _, _, _, _, _, _, rfl, TVP.z _ _, ?_⟩
    exact ((HB.setCell (by show w.heap.size ≤ w.heap.size + 1; omega) _).setCell (by show w.heap.size ≤ w.heap.size + 1; omega) _).setCell (by show w.heap.size ≤ w.heap.size + 1; omega) _
set_option maxHeartbeats 1000000 in
theorem Make_recasts_yes (l : List Fd) (c : Ch) (m : Nat) (hm : l.length = m) (hl : m ≤ 9223372036854775807) (A : Option Addr) (cA : Nat) (hcA : m ≤ cA) (Q : Option Addr) (n qc : Nat) (hn : c.q.length = n) (hn1 : n ≤ 17592186044415) (hqc : n ≤ qc) (p0 : -9223372036854775808 ≤ c.op) (p1 : c.op ≤ 9223372036854775807) (x0 : 0 ≤ c.d.b) (x1 : c.d.b < 18446744073709551616) (w : World) (hA : Rd w A (cellsF l)) (RQ : Rd w Q (cellsI c.q)) (hop : c.op = 4) (hr : rightF l = true) (k : Nat) (hz : findZ l c.s = k) (f : Fd) (hf : l[k]? = some f) (hv : castsB f.k f.l c.g.k c.g.l = true) (r : Bool) (hrt : rightT ⟨l, l.set k ⟨f.s, c.g.k, c.g.l⟩, kM m⟩ = r) :
    Calls Tryz.prog 97 #[.slice A m cA, .agg #[.int .i64 c.op, .string c.s, .string c.g.s, .int .i64 c.g.k, .int .i64 c.g.l, .int .i64 c.d.k, .int .u64 c.d.b, .string c.d.t, .slice Q n qc]] w fun e w' => MkP (bif r then ⟨l, l.set k ⟨f.s, c.g.k, c.g.l⟩, kM m⟩ else Tb.z) (bif r then 0 else 80) w e w' := by
  have h16 : m ≤ 16 := by rw [← hm]; exact (rightF_may hr).2
  have bb1 := below_new (w := w) (.cells #[.int .i64 c.op, .string c.s, .string c.g.s, .int .i64 c.g.k, .int .i64 c.g.l, .int .i64 c.d.k, .int .u64 c.d.b, .string c.d.t, .slice Q n qc] 76)
  have bb2 := below_new (w := w.alloc (.cells #[.int .i64 c.op, .string c.s, .string c.g.s, .int .i64 c.g.k, .int .i64 c.g.l, .int .i64 c.d.k, .int .u64 c.d.b, .string c.d.t, .slice Q n qc] 76)) (.cells #[.slice none 0 0, .slice none 0 0, .slice none 0 0] 96)
  have C0 : CBox _ _ c (.slice Q n qc) 76 := (OBox.new w (chL c (.slice Q n qc)) 76).below bb2
  have N0 := OBox.new (w.alloc (.cells #[.int .i64 c.op, .string c.s, .string c.g.s, .int .i64 c.g.k, .int .i64 c.g.l, .int .i64 c.d.k, .int .u64 c.d.b, .string c.d.t, .slice Q n qc] 76)) [.slice none 0 0, .slice none 0 0, .slice none 0 0] 96
  rw [World.size_alloc] at N0
  have HB0 := below_seq bb1 bb2
  obtain ⟨V4, V6, V8, V10, V11, r4, r6, r8, r10, r11, M11, c11, d11, e11, B11⟩ := ways_made ((w.alloc (.cells #[.int .i64 c.op, .string c.s, .string c.g.s, .int .i64 c.g.k, .int .i64 c.g.l, .int .i64 c.d.k, .int .u64 c.d.b, .string c.d.t, .slice Q n qc] 76)).alloc (.cells #[.slice none 0 0, .slice none 0 0, .slice none 0 0] 96))
  have HB := below_seq HB0 B11
  have C1 := C0.below B11
  have N1 := N0.below B11
  have szV : w.heap.size + 1 < V11.heap.size := N1.lt
  have hA1 := hA.below HB
  have RQ1 := RQ.below HB
  have hmk := make_map
  obtain ⟨a0, a1, a2, a3, a4, a5, a6, a7, a8⟩ := C0.c9
  obtain ⟨A0, A1, A2, A3, A4, A5, A6, A7, A8⟩ := C1.c9
  obtain ⟨n1, n2, n3, o1, o2, o3⟩ := N1.f3
  have HM := Lib.hid hm
  have HN := Lib.hid hn
  have hlk0 : ∀ o : Int, o = 4 → (Instr.lookup 206 (.map (some ((w.alloc (.cells #[.int .i64 c.op, .string c.s, .string c.g.s, .int .i64 c.g.k, .int .i64 c.g.l, .int .i64 c.d.k, .int .u64 c.d.b, .string c.d.t, .slice Q n qc] 76)).alloc (.cells #[.slice none 0 0, .slice none 0 0, .slice none 0 0] 96)).heap.size)) (.int .i64 o) true).run Tryz.prog V11 = .ok (.tuple #[(.func (.func 161) #[] #[.pointer (some ⟨V8.heap.size, 0, none⟩)]), .bool true]) V11 := by
    rintro o rfl
    exact map_some keyed5 Tryz.underlying206 M11 (keys5 (ks := [1, 2, 3, 4, 5]) rfl (by simp)) (key5 (by omega) (by omega)) ⟨ent (.int .i64 4) (.func (.func 161) #[] #[.pointer (some ⟨V8.heap.size, 0, none⟩)]) 3, by simp, rfl⟩ (by intro x hx hk; simp at hx; rcases hx with rfl | rfl | rfl | rfl | rfl <;> first | rfl | (simp [ent] at hk)) true
  have hlk := hlk0 c.op hop
  clear hlk0
  simp only [World.size_alloc] at r4 r6 r8 r10 r11 hlk M11
  have HR := Lib.hid hr
  clear hr hop
  have HZ := Lib.hid hz
  clear hz
  have HF := Lib.hid hf
  clear hf
  have HRT := Lib.hid hrt
  clear hrt
  have HV := Lib.hid hv
  clear hv
  go_enter Tryz.func97, Tryz.ntmps97
  go_upto_region 7 with (first
    | (go_at_call 136; refine (named_func _ _ _ _).mono ?_; rintro e w' ⟨rfl, rfl⟩)
    | (go_at_call 62; refine (Right_m A cA m l HM.out true HR.out _ hA1 hl).mono ?_; rintro e W0 ⟨rfl, hb⟩; replace HB := HB.trans (hb.mono HB.size); replace hA1 := hA1.below hb; replace RQ1 := RQ1.below hb; replace C1 := C1.below hb; replace N1 := N1.below hb; have c12 := cell_below (B := 0) hb c11; have d12 := cell_below (B := 0) hb d11; have e12 := cell_below (B := 0) hb e11; clear hb A0 A1 A2 A3 A4 A5 A6 A7 A8 n1 n2 n3 o1 o2 o3; obtain ⟨A0, A1, A2, A3, A4, A5, A6, A7, A8⟩ := C1.c9; obtain ⟨n1, n2, n3, o1, o2, o3⟩ := N1.f3))
  have szW : w.heap.size + 1 < W0.heap.size := N1.lt
  have hAd : Rd W0.drew A (cellsF l) := hA1
  have hAe : Rd (W0.drew.alloc (.cells #[.slice none 0 0, .slice none 0 0, .slice none 0 0] 96)) A (cellsF l) := Rd.below (w := W0.drew) hA1 (below_new _)
  have hAf : Rd (W0.alloc (.cells #[.slice none 0 0, .slice none 0 0, .slice none 0 0] 96)).drew A (cellsF l) := hA1.below (Below.drew (below_new _))
  obtain ⟨E0, E1, E2, E3, E4, E5, E6, E7, E8⟩ := (C1.below (below_new (.cells #[.slice none 0 0, .slice none 0 0, .slice none 0 0] 96))).c9
  clear a0 a1 a2 a3 a4 a5 a6 a7 a8 r4 r6 r8 r10 r11 hlk M11 c11 d11 e11 C0 N0 HB0 hmk B11
  go_cut [9, 10] (fun s9 s10 wx => ∃ p X0 y0 z0 X1 y1 z1 X2 y2 z2, s9 = .pointer (some ⟨p, 0, none⟩) ∧ s10 = .int .i64 0 ∧ OBox wx p [.slice X0 y0 z0, .slice X1 y1 z1, .slice X2 y2 z2] 96 ∧ Hid (TVP (fun g => w.heap.size + 2 ≤ g) wx (.agg #[.slice X0 y0 z0, .slice X1 y1 z1, .slice X2 y2 z2]) ⟨l, l.set k ⟨f.s, c.g.k, c.g.l⟩, kM m⟩) ∧ OBox wx (w.heap.size + 1) [.slice none 0 0, .slice none 0 0, .slice none 0 0] 96 ∧ Below w.heap.size w wx)
  case first =>
    go_region_with (first
      | (go_at_call 45; refine (TSame_yes A cA m l HM.out HR.out _ (by with_reducible assumption) hl hcA).mono ?_; rintro e W1 ⟨B, d, v2, v3, b1, b2, rfl, hb1, hb12, hb2, R1, hBl, own2, lt2, own3, hbS⟩; obtain ⟨X2, z2, rfl, u1, u2, u3⟩ := own_rd own2; obtain ⟨X3, z3, rfl, u4, u5, u6⟩ := own_rd own3; clear u1 u2 u3 u4 u5 u6; (first | (have h01 : Below W0.heap.size W0 W1 := (by with_reducible exact Below.undrewS hbS); obtain ⟨a, haE, ha2, hBa⟩ : ∃ a, a = W0.heap.size ∧ a ≤ b1 ∧ (∀ ad, B = some ad → a ≤ ad.block) := ⟨_, rfl, hb1, fun ad e => (hBl ad e).1⟩) | (have h01 : Below W0.heap.size W0 W1 := (by first | with_reducible exact Below.undrewA hbS | with_reducible exact Below.undrewB hbS); obtain ⟨a, haE, ha2, hBa⟩ : ∃ a, a = W0.heap.size + 1 ∧ a ≤ b1 ∧ (∀ ad, B = some ad → a ≤ ad.block) := ⟨_, rfl, by simpa using hb1, fun ad e => by have := (hBl ad e).1; simp at this; omega⟩; have PBX : OBox W1 W0.heap.size [.slice none 0 0, .slice none 0 0, .slice none 0 0] 96 := (by first | with_reducible exact OBox.newA hbS | with_reducible exact OBox.newB hbS))); have ha0 : W0.heap.size ≤ a := (by omega); have hBu : ∀ ad, B = some ad → ad.block < W1.heap.size := (fun ad e => by have := (hBl ad e).2; omega); clear hb1 hBl hbS; have HAE := Lib.hid haE; clear haE; have C2 := C1.below h01; have C3 := C2.below (below_new (.cells #[.slice none 0 0, .slice none 0 0, .slice none 0 0] 96)); obtain ⟨G0, G1, G2, G3, G4, G5, G6, G7, G8⟩ := C2.c9; obtain ⟨K0, K1, K2, K3, K4, K5, K6, K7, K8⟩ := C3.c9)
      | (go_at_call 161; refine (named_recasts_yes_at (by first | with_reducible exact Below.refl _ _ | with_reducible exact below_new _) l c m HM.out h16 B d b1 b2 a _ _ Q n qc HN.out hn1 hqc (RQ1.below h01) ha2 hb12 hb2 R1 hBa own2 lt2 own3 x0 x1 hBu V8.heap.size (cell_below (B := 0) h01 e12) k HZ.out f HF.out HV.out).mono ?_; rintro e W3 ⟨X0, y0, z0, X1, y1, z1, X4, y4, z4, rfl, hTV, hO⟩; have HT := Lib.hid hTV; clear hTV; (first | (have PB3 := PBX.only hO (by intro e; have := own_base own2 _ e.symm; have := HAE.out; omega) (by intro e; have := own_base own3 _ e.symm; have := HAE.out; omega); obtain ⟨s1, s2, s3, t1, t2, t3⟩ := PB3.f3) | (have PB3 : OBox W3 W1.heap.size [.slice none 0 0, .slice none 0 0, .slice none 0 0] 96 := (by refine OBox.only ?_ hO (by intro e; have := own_lt own2 _ e.symm; omega) (by intro e; have := own_lt own3 _ e.symm; omega); exact OBox.new _ _ _); obtain ⟨s1, s2, s3, t1, t2, t3⟩ := PB3.f3) | skip)))
    all_goals (go_wp2_with fail; go_meet; refine ⟨_, X0, y0, z0, X1, y1, z1, X4, y4, z4, rfl, rfl, ?_⟩)
    all_goals
      have hr2 : ∀ g, (Value.slice X2 m z2).ownBlock = some g → W0.heap.size ≤ g := fun g hg => by have := own_base own2 g hg; omega
      have hr3 : ∀ g, (Value.slice X3 m z3).ownBlock = some g → W0.heap.size ≤ g := fun g hg => by have := own_base own3 g hg; omega
      have haW : a ≤ W1.heap.size := by omega
      first
        | (obtain ⟨q1, q2, q3, q4⟩ := meet_make (x := .slice X0 y0 z0) (y := .slice X1 y1 z1) (z := .slice X4 y4 z4) HB ha0 haW szW h01 (by first | with_reducible exact Below.refl _ _ | with_reducible exact below_new _) hO hr2 hr3 HT.out (Below.refl _ _) PB3 (.inl (by have := HAE.out; omega)) (Nat.le_refl _) N1; exact ⟨q1, Lib.hid (q2 (by first | trivial | rfl)), q3, q4⟩)
        | (obtain ⟨q1, q2, q3, q4⟩ := meet_make (x := .slice X0 y0 z0) (y := .slice X1 y1 z1) (z := .slice X4 y4 z4) HB ha0 haW szW h01 (by with_reducible exact below_new _) hO hr2 hr3 HT.out (Below.refl _ _) PB3 (.inr (.inl ⟨Nat.le_refl _, by simp⟩)) h01.size N1; exact ⟨q1, Lib.hid (q2 (by first | trivial | rfl)), q3, q4⟩)
        | (obtain ⟨q1, q2, q3, q4⟩ := meet_last (x := .slice X0 y0 z0) (y := .slice X1 y1 z1) (z := .slice X4 y4 z4) (T := 96) HB ha0 haW szW h01 (by first | with_reducible exact Below.refl _ _ | with_reducible exact below_new _) hO hr2 hr3 HT.out N1; exact ⟨q1, Lib.hid (q2 (by first | trivial | rfl)), q3, q4⟩)
  case rest =>
    clear RQ1 C1 HB N1 hA1 hAd hAe hAf c12 d12 e12 A0 A1 A2 A3 A4 A5 A6 A7 A8 n1 n2 n3 o1 o2 o3 E0 E1 E2 E3 E4 E5 E6 E7 E8 szW szV
    obtain ⟨p, X0, y0, z0, X1, y1, z1, X2, y2, z2, rfl, rfl, PB, HT, N1, HB⟩ := hcut
    obtain ⟨i1, i2, i3, j1, j2, j3⟩ := PB.f3
    obtain ⟨n1, n2, n3, o1, o2, o3⟩ := N1.f3
    obtain ⟨_, _, _, _, _, _, ev, hd, R0, R1, R2⟩ := HT.out
    cases ev
    have HW : Hid (MvW (⟨l, l.set k ⟨f.s, c.g.k, c.g.l⟩, kM m⟩ : Tb).m) := Lib.hid (kM_w m)
    have l1 : Hid ((⟨l, l.set k ⟨f.s, c.g.k, c.g.l⟩, kM m⟩ : Tb).n.length ≤ 9223372036854775807 ∧ (⟨l, l.set k ⟨f.s, c.g.k, c.g.l⟩, kM m⟩ : Tb).m.length ≤ 9223372036854775807) := Lib.hid (by simp [HM.out, kM_length]; omega)
    have l0 : Hid ((⟨l, l.set k ⟨f.s, c.g.k, c.g.l⟩, kM m⟩ : Tb).o.length ≤ 9223372036854775807) := Lib.hid (by show l.length ≤ _; rw [HM.out]; exact hl)
    have R0r := R0.rd
    have R1r := R1.rd
    have R2r := R2.rd
    generalize hT : (⟨l, l.set k ⟨f.s, c.g.k, c.g.l⟩, kM m⟩ : Tb) = T at *
    cases r
    · go_wp2_with (go_at_call 72; refine (TRight_m T _ _ _ _ _ _ _ _ _ rfl rfl rfl l0.out l1.out.1 l1.out.2 HW.out _ R0r R1r R2r).mono ?_; rintro e wM ⟨rfl, hb⟩; rw [HRT.out]; replace HB := HB.trans (hb.mono HB.size); replace PB := PB.below hb; replace N1 := N1.below hb; clear hb i1 i2 i3 j1 j2 j3 n1 n2 n3 o1 o2 o3; obtain ⟨i1, i2, i3, j1, j2, j3⟩ := PB.f3; obtain ⟨n1, n2, n3, o1, o2, o3⟩ := N1.f3)
      refine bodyPost_ret (v := .tuple #[.agg #[.slice none 0 0, .slice none 0 0, .slice none 0 0], .int .i64 80]) (by simp [results, Tryz.results97, go_sem, *]; done) rfl ⟨_, _, _, _, _, _, _, _, _, rfl, TVP.z _ _, ?_⟩
      exact ((HB.setCell (by show w.heap.size ≤ w.heap.size + 1; omega) _).setCell (by show w.heap.size ≤ w.heap.size + 1; omega) _).setCell (by show w.heap.size ≤ w.heap.size + 1; omega) _
    · go_wp2_with (go_at_call 72; refine (TRight_m T _ _ _ _ _ _ _ _ _ rfl rfl rfl l0.out l1.out.1 l1.out.2 HW.out _ R0r R1r R2r).mono ?_; rintro e wM ⟨rfl, hb⟩; rw [HRT.out]; replace HB := HB.trans (hb.mono HB.size); replace PB := PB.below hb; replace N1 := N1.below hb; have HTV := Lib.hid (TVP.keep HT.out.lt (fun g hg => hb.block g hg.2)); clear hb i1 i2 i3 j1 j2 j3 n1 n2 n3 o1 o2 o3; obtain ⟨i1, i2, i3, j1, j2, j3⟩ := PB.f3; obtain ⟨n1, n2, n3, o1, o2, o3⟩ := N1.f3)
      refine bodyPost_ret (v := .tuple #[.agg #[.slice X0 T.o.length z0, .slice X1 T.n.length z1, .slice X2 T.m.length z2], .int .i64 0]) (by simp [results, Tryz.results97, go_sem, *]; done) rfl ⟨_, _, _, _, _, _, _, _, _, rfl, ?_, ?_⟩
      · rw [show (bif true then ⟨l, l.set k ⟨f.s, c.g.k, c.g.l⟩, kM m⟩ else Tb.z) = T from hT]
        refine (HTV.out.keep (fun g hg => ?_)).mono (fun g hg => ?_)
        · have h := hg.1
          exact (Below.heap_setCell _ _ _ _ (by show g ≠ w.heap.size + 1; omega)).trans ((Below.heap_setCell _ _ _ _ (by show g ≠ w.heap.size + 1; omega)).trans (Below.heap_setCell _ _ _ _ (by show g ≠ w.heap.size + 1; omega)))
        · have h := hg.1
          show w.heap.size ≤ g
          omega
      · exact ((HB.setCell (by show w.heap.size ≤ w.heap.size + 1; omega) _).setCell (by show w.heap.size ≤ w.heap.size + 1; omega) _).setCell (by show w.heap.size ≤ w.heap.size + 1; omega) _
set_option maxHeartbeats 1000000 in
theorem Make_recasts_no (l : List Fd) (c : Ch) (m : Nat) (hm : l.length = m) (hl : m ≤ 9223372036854775807) (A : Option Addr) (cA : Nat) (hcA : m ≤ cA) (Q : Option Addr) (n qc : Nat) (hn : c.q.length = n) (hn1 : n ≤ 17592186044415) (hqc : n ≤ qc) (p0 : -9223372036854775808 ≤ c.op) (p1 : c.op ≤ 9223372036854775807) (x0 : 0 ≤ c.d.b) (x1 : c.d.b < 18446744073709551616) (w : World) (hA : Rd w A (cellsF l)) (RQ : Rd w Q (cellsI c.q)) (hop : c.op = 4) (hr : rightF l = true) (k : Nat) (hz : findZ l c.s = k) (f : Fd) (hf : l[k]? = some f) (hv : castsB f.k f.l c.g.k c.g.l = false) :
    Calls Tryz.prog 97 #[.slice A m cA, .agg #[.int .i64 c.op, .string c.s, .string c.g.s, .int .i64 c.g.k, .int .i64 c.g.l, .int .i64 c.d.k, .int .u64 c.d.b, .string c.d.t, .slice Q n qc]] w fun e w' => MkP Tb.z 80 w e w' := by
  have h16 : m ≤ 16 := by rw [← hm]; exact (rightF_may hr).2
  have bb1 := below_new (w := w) (.cells #[.int .i64 c.op, .string c.s, .string c.g.s, .int .i64 c.g.k, .int .i64 c.g.l, .int .i64 c.d.k, .int .u64 c.d.b, .string c.d.t, .slice Q n qc] 76)
  have bb2 := below_new (w := w.alloc (.cells #[.int .i64 c.op, .string c.s, .string c.g.s, .int .i64 c.g.k, .int .i64 c.g.l, .int .i64 c.d.k, .int .u64 c.d.b, .string c.d.t, .slice Q n qc] 76)) (.cells #[.slice none 0 0, .slice none 0 0, .slice none 0 0] 96)
  have C0 : CBox _ _ c (.slice Q n qc) 76 := (OBox.new w (chL c (.slice Q n qc)) 76).below bb2
  have N0 := OBox.new (w.alloc (.cells #[.int .i64 c.op, .string c.s, .string c.g.s, .int .i64 c.g.k, .int .i64 c.g.l, .int .i64 c.d.k, .int .u64 c.d.b, .string c.d.t, .slice Q n qc] 76)) [.slice none 0 0, .slice none 0 0, .slice none 0 0] 96
  rw [World.size_alloc] at N0
  have HB0 := below_seq bb1 bb2
  obtain ⟨V4, V6, V8, V10, V11, r4, r6, r8, r10, r11, M11, c11, d11, e11, B11⟩ := ways_made ((w.alloc (.cells #[.int .i64 c.op, .string c.s, .string c.g.s, .int .i64 c.g.k, .int .i64 c.g.l, .int .i64 c.d.k, .int .u64 c.d.b, .string c.d.t, .slice Q n qc] 76)).alloc (.cells #[.slice none 0 0, .slice none 0 0, .slice none 0 0] 96))
  have HB := below_seq HB0 B11
  have C1 := C0.below B11
  have N1 := N0.below B11
  have szV : w.heap.size + 1 < V11.heap.size := N1.lt
  have hA1 := hA.below HB
  have RQ1 := RQ.below HB
  have hmk := make_map
  obtain ⟨a0, a1, a2, a3, a4, a5, a6, a7, a8⟩ := C0.c9
  obtain ⟨A0, A1, A2, A3, A4, A5, A6, A7, A8⟩ := C1.c9
  obtain ⟨n1, n2, n3, o1, o2, o3⟩ := N1.f3
  have HM := Lib.hid hm
  have HN := Lib.hid hn
  have hlk0 : ∀ o : Int, o = 4 → (Instr.lookup 206 (.map (some ((w.alloc (.cells #[.int .i64 c.op, .string c.s, .string c.g.s, .int .i64 c.g.k, .int .i64 c.g.l, .int .i64 c.d.k, .int .u64 c.d.b, .string c.d.t, .slice Q n qc] 76)).alloc (.cells #[.slice none 0 0, .slice none 0 0, .slice none 0 0] 96)).heap.size)) (.int .i64 o) true).run Tryz.prog V11 = .ok (.tuple #[(.func (.func 161) #[] #[.pointer (some ⟨V8.heap.size, 0, none⟩)]), .bool true]) V11 := by
    rintro o rfl
    exact map_some keyed5 Tryz.underlying206 M11 (keys5 (ks := [1, 2, 3, 4, 5]) rfl (by simp)) (key5 (by omega) (by omega)) ⟨ent (.int .i64 4) (.func (.func 161) #[] #[.pointer (some ⟨V8.heap.size, 0, none⟩)]) 3, by simp, rfl⟩ (by intro x hx hk; simp at hx; rcases hx with rfl | rfl | rfl | rfl | rfl <;> first | rfl | (simp [ent] at hk)) true
  have hlk := hlk0 c.op hop
  clear hlk0
  simp only [World.size_alloc] at r4 r6 r8 r10 r11 hlk M11
  have HR := Lib.hid hr
  clear hr hop
  have HZ := Lib.hid hz
  clear hz
  have HF := Lib.hid hf
  clear hf
  have HV := Lib.hid hv
  clear hv
  go_enter Tryz.func97, Tryz.ntmps97
  go_upto_region 7 with (first
    | (go_at_call 136; refine (named_func _ _ _ _).mono ?_; rintro e w' ⟨rfl, rfl⟩)
    | (go_at_call 62; refine (Right_m A cA m l HM.out true HR.out _ hA1 hl).mono ?_; rintro e W0 ⟨rfl, hb⟩; replace HB := HB.trans (hb.mono HB.size); replace hA1 := hA1.below hb; replace RQ1 := RQ1.below hb; replace C1 := C1.below hb; replace N1 := N1.below hb; have c12 := cell_below (B := 0) hb c11; have d12 := cell_below (B := 0) hb d11; have e12 := cell_below (B := 0) hb e11; clear hb A0 A1 A2 A3 A4 A5 A6 A7 A8 n1 n2 n3 o1 o2 o3; obtain ⟨A0, A1, A2, A3, A4, A5, A6, A7, A8⟩ := C1.c9; obtain ⟨n1, n2, n3, o1, o2, o3⟩ := N1.f3))
  have szW : w.heap.size + 1 < W0.heap.size := N1.lt
  have hAd : Rd W0.drew A (cellsF l) := hA1
  have hAe : Rd (W0.drew.alloc (.cells #[.slice none 0 0, .slice none 0 0, .slice none 0 0] 96)) A (cellsF l) := Rd.below (w := W0.drew) hA1 (below_new _)
  have hAf : Rd (W0.alloc (.cells #[.slice none 0 0, .slice none 0 0, .slice none 0 0] 96)).drew A (cellsF l) := hA1.below (Below.drew (below_new _))
  obtain ⟨E0, E1, E2, E3, E4, E5, E6, E7, E8⟩ := (C1.below (below_new (.cells #[.slice none 0 0, .slice none 0 0, .slice none 0 0] 96))).c9
  clear a0 a1 a2 a3 a4 a5 a6 a7 a8 r4 r6 r8 r10 r11 hlk M11 c11 d11 e11 C0 N0 HB0 hmk B11
  go_cut [9, 10] (fun s9 s10 wx => ∃ p X0 y0 z0 X1 y1 z1 X2 y2 z2, s9 = .pointer (some ⟨p, 0, none⟩) ∧ s10 = .int .i64 80 ∧ OBox wx p [.slice X0 y0 z0, .slice X1 y1 z1, .slice X2 y2 z2] 96 ∧ Hid True ∧ OBox wx (w.heap.size + 1) [.slice none 0 0, .slice none 0 0, .slice none 0 0] 96 ∧ Below w.heap.size w wx)
  case first =>
    go_region_with (first
      | (go_at_call 45; refine (TSame_yes A cA m l HM.out HR.out _ (by with_reducible assumption) hl hcA).mono ?_; rintro e W1 ⟨B, d, v2, v3, b1, b2, rfl, hb1, hb12, hb2, R1, hBl, own2, lt2, own3, hbS⟩; obtain ⟨X2, z2, rfl, u1, u2, u3⟩ := own_rd own2; obtain ⟨X3, z3, rfl, u4, u5, u6⟩ := own_rd own3; clear u1 u2 u3 u4 u5 u6; (first | (have h01 : Below W0.heap.size W0 W1 := (by with_reducible exact Below.undrewS hbS); obtain ⟨a, haE, ha2, hBa⟩ : ∃ a, a = W0.heap.size ∧ a ≤ b1 ∧ (∀ ad, B = some ad → a ≤ ad.block) := ⟨_, rfl, hb1, fun ad e => (hBl ad e).1⟩) | (have h01 : Below W0.heap.size W0 W1 := (by first | with_reducible exact Below.undrewA hbS | with_reducible exact Below.undrewB hbS); obtain ⟨a, haE, ha2, hBa⟩ : ∃ a, a = W0.heap.size + 1 ∧ a ≤ b1 ∧ (∀ ad, B = some ad → a ≤ ad.block) := ⟨_, rfl, by simpa using hb1, fun ad e => by have := (hBl ad e).1; simp at this; omega⟩; have PBX : OBox W1 W0.heap.size [.slice none 0 0, .slice none 0 0, .slice none 0 0] 96 := (by first | with_reducible exact OBox.newA hbS | with_reducible exact OBox.newB hbS))); have ha0 : W0.heap.size ≤ a := (by omega); have hBu : ∀ ad, B = some ad → ad.block < W1.heap.size := (fun ad e => by have := (hBl ad e).2; omega); clear hb1 hBl hbS; have HAE := Lib.hid haE; clear haE; have C2 := C1.below h01; have C3 := C2.below (below_new (.cells #[.slice none 0 0, .slice none 0 0, .slice none 0 0] 96)); obtain ⟨G0, G1, G2, G3, G4, G5, G6, G7, G8⟩ := C2.c9; obtain ⟨K0, K1, K2, K3, K4, K5, K6, K7, K8⟩ := C3.c9)
      | (go_at_call 161; refine (named_recasts_no_at (by first | with_reducible exact Below.refl _ _ | with_reducible exact below_new _) l c m HM.out h16 B d b1 b2 a _ _ Q n qc HN.out hn1 hqc (RQ1.below h01) ha2 hb12 hb2 R1 hBa own2 lt2 own3 x0 x1 hBu V8.heap.size (cell_below (B := 0) h01 e12) k HZ.out f HF.out HV.out).mono ?_; rintro e W3 ⟨X0, y0, z0, X1, y1, z1, X4, y4, z4, rfl, hTV, hO⟩; have HT := Lib.hid hTV; clear hTV; (first | (have PB3 := PBX.only hO (by intro e; have := own_base own2 _ e.symm; have := HAE.out; omega) (by intro e; have := own_base own3 _ e.symm; have := HAE.out; omega); obtain ⟨s1, s2, s3, t1, t2, t3⟩ := PB3.f3) | (have PB3 : OBox W3 W1.heap.size [.slice none 0 0, .slice none 0 0, .slice none 0 0] 96 := (by refine OBox.only ?_ hO (by intro e; have := own_lt own2 _ e.symm; omega) (by intro e; have := own_lt own3 _ e.symm; omega); exact OBox.new _ _ _); obtain ⟨s1, s2, s3, t1, t2, t3⟩ := PB3.f3) | skip)))
    all_goals (go_wp2_with fail; go_meet; refine ⟨_, X0, y0, z0, X1, y1, z1, X4, y4, z4, rfl, rfl, ?_⟩)
    all_goals
      have hr2 : ∀ g, (Value.slice X2 m z2).ownBlock = some g → W0.heap.size ≤ g := fun g hg => by have := own_base own2 g hg; omega
      have hr3 : ∀ g, (Value.slice X3 m z3).ownBlock = some g → W0.heap.size ≤ g := fun g hg => by have := own_base own3 g hg; omega
      have haW : a ≤ W1.heap.size := by omega
      first
        | (obtain ⟨q1, q2, q3, q4⟩ := meet_make (x := .slice X0 y0 z0) (y := .slice X1 y1 z1) (z := .slice X4 y4 z4) HB ha0 haW szW h01 (by first | with_reducible exact Below.refl _ _ | with_reducible exact below_new _) hO hr2 hr3 HT.out (Below.refl _ _) PB3 (.inl (by have := HAE.out; omega)) (Nat.le_refl _) N1; exact ⟨q1, Lib.hid (True.intro), q3, q4⟩)
        | (obtain ⟨q1, q2, q3, q4⟩ := meet_make (x := .slice X0 y0 z0) (y := .slice X1 y1 z1) (z := .slice X4 y4 z4) HB ha0 haW szW h01 (by with_reducible exact below_new _) hO hr2 hr3 HT.out (Below.refl _ _) PB3 (.inr (.inl ⟨Nat.le_refl _, by simp⟩)) h01.size N1; exact ⟨q1, Lib.hid (True.intro), q3, q4⟩)
        | (obtain ⟨q1, q2, q3, q4⟩ := meet_last (x := .slice X0 y0 z0) (y := .slice X1 y1 z1) (z := .slice X4 y4 z4) (T := 96) HB ha0 haW szW h01 (by first | with_reducible exact Below.refl _ _ | with_reducible exact below_new _) hO hr2 hr3 HT.out N1; exact ⟨q1, Lib.hid (True.intro), q3, q4⟩)
  case rest =>
    clear RQ1 C1 HB N1 hA1 hAd hAe hAf c12 d12 e12 A0 A1 A2 A3 A4 A5 A6 A7 A8 n1 n2 n3 o1 o2 o3 E0 E1 E2 E3 E4 E5 E6 E7 E8 szW szV
    obtain ⟨p, X0, y0, z0, X1, y1, z1, X2, y2, z2, rfl, rfl, PB, HT, N1, HB⟩ := hcut
    obtain ⟨i1, i2, i3, j1, j2, j3⟩ := PB.f3
    obtain ⟨n1, n2, n3, o1, o2, o3⟩ := N1.f3
    go_wp2
    refine bodyPost_ret (v := .tuple #[.agg #[.slice none 0 0, .slice none 0 0, .slice none 0 0], .int .i64 80]) (by simp [results, Tryz.results97, go_sem, *]; done) rfl ⟨_, _, _, _, _, _, _, _, _, rfl, TVP.z _ _, ?_⟩
    exact ((HB.setCell (by show w.heap.size ≤ w.heap.size + 1; omega) _).setCell (by show w.heap.size ≤ w.heap.size + 1; omega) _).setCell (by show w.heap.size ≤ w.heap.size + 1; omega) _
end Go.Proofs.YteembinfgbapgaaGreat
