/- Merged out of: Nt Nu Nv Ob. -/
import Derived.Test.YteembinfgbapgaaGreatM15
import Derived.Test.YteembinfgbapgaaGreatM16
import Derived.Test.YteembinfgbapgaaGreatM17
import Derived.Test.YteembinfgbapgaaGreatM18
/- Layer 8 of the heap, changes: what the program makes of a change, walked case by case. -/
set_option linter.unusedSimpArgs false
set_option linter.unusedVariables false
set_option maxRecDepth 100000
namespace Go.Proofs.YteembinfgbapgaaGreat
open Go.RowKit Go.Lib Go.Maps

set_option maxHeartbeats 1000000 in
theorem Make_orders_no (l : List Fd) (c : Ch) (m : Nat) (hm : l.length = m) (hl : m ≤ 9223372036854775807) (A : Option Addr) (cA : Nat) (hcA : m ≤ cA) (Q : Option Addr) (n qc : Nat) (hn : c.q.length = n) (hn1 : n ≤ 17592186044415) (hqc : n ≤ qc) (p0 : -9223372036854775808 ≤ c.op) (p1 : c.op ≤ 9223372036854775807) (x0 : 0 ≤ c.d.b) (x1 : c.d.b < 18446744073709551616) (w : World) (hA : Rd w A (cellsF l)) (RQ : Rd w Q (cellsI c.q)) (hop : c.op = 5) (hr : rightF l = true) (hv : permB c.q m = false) :
    Calls Tryz.prog 97 #[.slice A m cA, .agg #[.int .i64 c.op, .string c.s, .string c.g.s, .int .i64 c.g.k, .int .i64 c.g.l, .int .i64 c.d.k, .int .u64 c.d.b, .string c.d.t, .slice Q n qc]] w fun e w' => MkP Tb.z 80 w e w' := by
  have h16 : m ≤ 16 := by rw [← hm]; exact (rightF_may hr).2
  have bb1 := below_new (w := w) (.cells #[.int .i64 c.op, .string c.s, .string c.g.s, .int .i64 c.g.k, .int .i64 c.g.l, .int .i64 c.d.k, .int .u64 c.d.b, .string c.d.t, .slice Q n qc] 76)
  have bb2 := below_new (w := w.alloc (.cells #[.int .i64 c.op, .string c.s, .string c.g.s, .int .i64 c.g.k, .int .i64 c.g.l, .int .i64 c.d.k, .int .u64 c.d.b, .string c.d.t, .slice Q n qc] 76)) (.cells #[.slice none 0 0, .slice none 0 0, .slice none 0 0] 96)
  have C0 : CBox _ _ c (.slice Q n qc) 76 := (OBox.new w (chL c (.slice Q n qc)) 76).below bb2
  have N0 := OBox.new (w.alloc (.cells #[.int .i64 c.op, .string c.s, .string c.g.s, .int .i64 c.g.k, .int .i64 c.g.l, .int .i64 c.d.k, .int .u64 c.d.b, .string c.d.t, .slice Q n qc] 76)) [.slice none 0 0, .slice none 0 0, .slice none 0 0] 96
  rw [World.size_alloc] at N0
  have HB0 := below_seq bb1 bb2
  obtain ⟨V4, V6, V8, V10, V11, r4, r6, r8, r10, r11, M11, c11, d11, e11, B11⟩ := ways_made ((w.alloc (.cells #[.int .i64 c.op, .string c.s, .string c.g.s, .int .i64 c.g.k, .int .i64 c.g.l, .int .i64 c.d.k, .int .u64 c.d.b, .string c.d.t, .slice Q n qc] 76)).alloc (.cells #[.slice none 0 0, .slice none 0 0, .slice none 0 0] 96))
  have HB := below_seq HB0 B11
  have C1 := C0.below B11
  have N1 := N0.below B11
  have szV : w.heap.size + 1 < V11.heap.size := N1.lt
  have hA1 := hA.below HB
  have RQ1 := RQ.below HB
  have hmk := make_map
  obtain ⟨a0, a1, a2, a3, a4, a5, a6, a7, a8⟩ := C0.c9
  obtain ⟨A0, A1, A2, A3, A4, A5, A6, A7, A8⟩ := C1.c9
  obtain ⟨n1, n2, n3, o1, o2, o3⟩ := N1.f3
  have HM := Lib.hid hm
  have HN := Lib.hid hn
  have hlk0 : ∀ o : Int, o = 5 → (Instr.lookup 206 (.map (some ((w.alloc (.cells #[.int .i64 c.op, .string c.s, .string c.g.s, .int .i64 c.g.k, .int .i64 c.g.l, .int .i64 c.d.k, .int .u64 c.d.b, .string c.d.t, .slice Q n qc] 76)).alloc (.cells #[.slice none 0 0, .slice none 0 0, .slice none 0 0] 96)).heap.size)) (.int .i64 o) true).run Tryz.prog V11 = .ok (.tuple #[(.func (.func 140) #[] #[]), .bool true]) V11 := by
    rintro o rfl
    exact map_some keyed5 Tryz.underlying206 M11 (keys5 (ks := [1, 2, 3, 4, 5]) rfl (by simp)) (key5 (by omega) (by omega)) ⟨ent (.int .i64 5) (.func (.func 140) #[] #[]) 4, by simp, rfl⟩ (by intro x hx hk; simp at hx; rcases hx with rfl | rfl | rfl | rfl | rfl <;> first | rfl | (simp [ent] at hk)) true
  have hlk := hlk0 c.op hop
  clear hlk0
  simp only [World.size_alloc] at r4 r6 r8 r10 r11 hlk M11
  have HR := Lib.hid hr
  clear hr hop
  have HV := Lib.hid hv
  clear hv
  go_enter Tryz.func97, Tryz.ntmps97
  go_upto_region 7 with (first
    | (go_at_call 136; refine (named_func _ _ _ _).mono ?_; rintro e w' ⟨rfl, rfl⟩)
    | (go_at_call 62; refine (Right_m A cA m l HM.out true HR.out _ hA1 hl).mono ?_; rintro e W0 ⟨rfl, hb⟩; replace HB := HB.trans (hb.mono HB.size); replace hA1 := hA1.below hb; replace RQ1 := RQ1.below hb; replace C1 := C1.below hb; replace N1 := N1.below hb; have c12 := cell_below (B := 0) hb c11; have d12 := cell_below (B := 0) hb d11; have e12 := cell_below (B := 0) hb e11; clear hb A0 A1 A2 A3 A4 A5 A6 A7 A8 n1 n2 n3 o1 o2 o3; obtain ⟨A0, A1, A2, A3, A4, A5, A6, A7, A8⟩ := C1.c9; obtain ⟨n1, n2, n3, o1, o2, o3⟩ := N1.f3))
  have szW : w.heap.size + 1 < W0.heap.size := N1.lt
  have hAd : Rd W0.drew A (cellsF l) := hA1
  have hAe : Rd (W0.drew.alloc (.cells #[.slice none 0 0, .slice none 0 0, .slice none 0 0] 96)) A (cellsF l) := Rd.below (w := W0.drew) hA1 (below_new _)
  have hAf : Rd (W0.alloc (.cells #[.slice none 0 0, .slice none 0 0, .slice none 0 0] 96)).drew A (cellsF l) := hA1.below (Below.drew (below_new _))
  obtain ⟨E0, E1, E2, E3, E4, E5, E6, E7, E8⟩ := (C1.below (below_new (.cells #[.slice none 0 0, .slice none 0 0, .slice none 0 0] 96))).c9
  clear a0 a1 a2 a3 a4 a5 a6 a7 a8 r4 r6 r8 r10 r11 hlk M11 c11 d11 e11 C0 N0 HB0 hmk B11
  go_cut [9, 10] (fun s9 s10 wx => ∃ p X0 y0 z0 X1 y1 z1 X2 y2 z2, s9 = .pointer (some ⟨p, 0, none⟩) ∧ s10 = .int .i64 80 ∧ OBox wx p [.slice X0 y0 z0, .slice X1 y1 z1, .slice X2 y2 z2] 96 ∧ Hid True ∧ OBox wx (w.heap.size + 1) [.slice none 0 0, .slice none 0 0, .slice none 0 0] 96 ∧ Below w.heap.size w wx)
  case first =>
    go_region_with (first
      | (go_at_call 45; refine (TSame_yes A cA m l HM.out HR.out _ (by with_reducible assumption) hl hcA).mono ?_; rintro e W1 ⟨B, d, v2, v3, b1, b2, rfl, hb1, hb12, hb2, R1, hBl, own2, lt2, own3, hbS⟩; obtain ⟨X2, z2, rfl, u1, u2, u3⟩ := own_rd own2; obtain ⟨X3, z3, rfl, u4, u5, u6⟩ := own_rd own3; clear u1 u2 u3 u4 u5 u6; (first | (have h01 : Below W0.heap.size W0 W1 := (by with_reducible exact Below.undrewS hbS); obtain ⟨a, haE, ha2, hBa⟩ : ∃ a, a = W0.heap.size ∧ a ≤ b1 ∧ (∀ ad, B = some ad → a ≤ ad.block) := ⟨_, rfl, hb1, fun ad e => (hBl ad e).1⟩) | (have h01 : Below W0.heap.size W0 W1 := (by first | with_reducible exact Below.undrewA hbS | with_reducible exact Below.undrewB hbS); obtain ⟨a, haE, ha2, hBa⟩ : ∃ a, a = W0.heap.size + 1 ∧ a ≤ b1 ∧ (∀ ad, B = some ad → a ≤ ad.block) := ⟨_, rfl, by simpa using hb1, fun ad e => by have := (hBl ad e).1; simp at this; omega⟩; have PBX : OBox W1 W0.heap.size [.slice none 0 0, .slice none 0 0, .slice none 0 0] 96 := (by first | with_reducible exact OBox.newA hbS | with_reducible exact OBox.newB hbS))); have ha0 : W0.heap.size ≤ a := (by omega); have hBu : ∀ ad, B = some ad → ad.block < W1.heap.size := (fun ad e => by have := (hBl ad e).2; omega); clear hb1 hBl hbS; have HAE := Lib.hid haE; clear haE; have C2 := C1.below h01; have C3 := C2.below (below_new (.cells #[.slice none 0 0, .slice none 0 0, .slice none 0 0] 96)); obtain ⟨G0, G1, G2, G3, G4, G5, G6, G7, G8⟩ := C2.c9; obtain ⟨K0, K1, K2, K3, K4, K5, K6, K7, K8⟩ := C3.c9)
      | (go_at_call 140; refine (orders_no_at (by first | with_reducible exact Below.refl _ _ | with_reducible exact below_new _) l c m HM.out h16 B d b1 b2 a _ _ Q n qc HN.out hn1 hqc (RQ1.below h01) ha2 hb12 hb2 R1 hBa own2 lt2 own3 x0 x1 hBu _ _ _ rfl _ _ _ rfl HV.out).mono ?_; rintro e W3 ⟨X0, y0, z0, X1, y1, z1, X4, y4, z4, rfl, hTV, hO⟩; have HT := Lib.hid hTV; clear hTV; (first | (have PB3 := PBX.only hO (by intro e; have := own_base own2 _ e.symm; have := HAE.out; omega) (by intro e; have := own_base own3 _ e.symm; have := HAE.out; omega); obtain ⟨s1, s2, s3, t1, t2, t3⟩ := PB3.f3) | (have PB3 : OBox W3 W1.heap.size [.slice none 0 0, .slice none 0 0, .slice none 0 0] 96 := (by refine OBox.only ?_ hO (by intro e; have := own_lt own2 _ e.symm; omega) (by intro e; have := own_lt own3 _ e.symm; omega); exact OBox.new _ _ _); obtain ⟨s1, s2, s3, t1, t2, t3⟩ := PB3.f3) | skip)))
    all_goals (go_wp2_with fail; go_meet; refine ⟨_, X0, y0, z0, X1, y1, z1, X4, y4, z4, rfl, rfl, ?_⟩)
    all_goals
      have hr2 : ∀ g, (Value.slice X2 m z2).ownBlock = some g → W0.heap.size ≤ g := fun g hg => by have := own_base own2 g hg; omega
      have hr3 : ∀ g, (Value.slice X3 m z3).ownBlock = some g → W0.heap.size ≤ g := fun g hg => by have := own_base own3 g hg; omega
      have haW : a ≤ W1.heap.size := by omega
      first
        | (obtain ⟨q1, q2, q3, q4⟩ := meet_make (x := .slice X0 y0 z0) (y := .slice X1 y1 z1) (z := .slice X4 y4 z4) HB ha0 haW szW h01 (by first | with_reducible exact Below.refl _ _ | with_reducible exact below_new _) hO hr2 hr3 HT.out (Below.refl _ _) PB3 (.inl (by have := HAE.out; omega)) (Nat.le_refl _) N1; exact ⟨q1, Lib.hid (True.intro), q3, q4⟩)
        | (obtain ⟨q1, q2, q3, q4⟩ := meet_make (x := .slice X0 y0 z0) (y := .slice X1 y1 z1) (z := .slice X4 y4 z4) HB ha0 haW szW h01 (by with_reducible exact below_new _) hO hr2 hr3 HT.out (Below.refl _ _) PB3 (.inr (.inl ⟨Nat.le_refl _, by simp⟩)) h01.size N1; exact ⟨q1, Lib.hid (True.intro), q3, q4⟩)
        | (obtain ⟨q1, q2, q3, q4⟩ := meet_last (x := .slice X0 y0 z0) (y := .slice X1 y1 z1) (z := .slice X4 y4 z4) (T := 96) HB ha0 haW szW h01 (by first | with_reducible exact Below.refl _ _ | with_reducible exact below_new _) hO hr2 hr3 HT.out N1; exact ⟨q1, Lib.hid (True.intro), q3, q4⟩)
  case rest =>
    clear RQ1 C1 HB N1 hA1 hAd hAe hAf c12 d12 e12 A0 A1 A2 A3 A4 A5 A6 A7 A8 n1 n2 n3 o1 o2 o3 E0 E1 E2 E3 E4 E5 E6 E7 E8 szW szV
    obtain ⟨p, X0, y0, z0, X1, y1, z1, X2, y2, z2, rfl, rfl, PB, HT, N1, HB⟩ := hcut
    obtain ⟨i1, i2, i3, j1, j2, j3⟩ := PB.f3
    obtain ⟨n1, n2, n3, o1, o2, o3⟩ := N1.f3
    go_wp2
    refine bodyPost_ret (v := .tuple #[.agg #[.slice none 0 0, .slice none 0 0, .slice none 0 0], .int .i64 80]) (by simp [results, Tryz.results97, go_sem, *]; done) rfl ⟨_, _, _, _, _, _, _, _, _, rfl, TVP.z _ _, ?_⟩
    exact ((HB.setCell (by show w.heap.size ≤ w.heap.size + 1; omega) _).setCell (by show w.heap.size ≤ w.heap.size + 1; omega) _).setCell (by show w.heap.size ≤ w.heap.size + 1; omega) _
set_option maxHeartbeats 1000000 in
theorem Make_orders_yes (l : List Fd) (c : Ch) (m : Nat) (hm : l.length = m) (hl : m ≤ 9223372036854775807) (A : Option Addr) (cA : Nat) (hcA : m ≤ cA) (Q : Option Addr) (n qc : Nat) (hn : c.q.length = n) (hn1 : n ≤ 17592186044415) (hqc : n ≤ qc) (p0 : -9223372036854775808 ≤ c.op) (p1 : c.op ≤ 9223372036854775807) (x0 : 0 ≤ c.d.b) (x1 : c.d.b < 18446744073709551616) (w : World) (hA : Rd w A (cellsF l)) (RQ : Rd w Q (cellsI c.q)) (hop : c.op = 5) (hr : rightF l = true) (hv : permB c.q m = true) (r : Bool) (hrt : rightT ⟨l, c.q.map fun x => (l[x.toNat]?).getD Fd.z, c.q.map fun x => ⟨x, Vl.z⟩⟩ = r) :
    Calls Tryz.prog 97 #[.slice A m cA, .agg #[.int .i64 c.op, .string c.s, .string c.g.s, .int .i64 c.g.k, .int .i64 c.g.l, .int .i64 c.d.k, .int .u64 c.d.b, .string c.d.t, .slice Q n qc]] w fun e w' => MkP (bif r then ⟨l, c.q.map fun x => (l[x.toNat]?).getD Fd.z, c.q.map fun x => ⟨x, Vl.z⟩⟩ else Tb.z) (bif r then 0 else 80) w e w' := by
  have h16 : m ≤ 16 := by rw [← hm]; exact (rightF_may hr).2
  have bb1 := below_new (w := w) (.cells #[.int .i64 c.op, .string c.s, .string c.g.s, .int .i64 c.g.k, .int .i64 c.g.l, .int .i64 c.d.k, .int .u64 c.d.b, .string c.d.t, .slice Q n qc] 76)
  have bb2 := below_new (w := w.alloc (.cells #[.int .i64 c.op, .string c.s, .string c.g.s, .int .i64 c.g.k, .int .i64 c.g.l, .int .i64 c.d.k, .int .u64 c.d.b, .string c.d.t, .slice Q n qc] 76)) (.cells #[.slice none 0 0, .slice none 0 0, .slice none 0 0] 96)
  have C0 : CBox _ _ c (.slice Q n qc) 76 := (OBox.new w (chL c (.slice Q n qc)) 76).below bb2
  have N0 := OBox.new (w.alloc (.cells #[.int .i64 c.op, .string c.s, .string c.g.s, .int .i64 c.g.k, .int .i64 c.g.l, .int .i64 c.d.k, .int .u64 c.d.b, .string c.d.t, .slice Q n qc] 76)) [.slice none 0 0, .slice none 0 0, .slice none 0 0] 96
  rw [World.size_alloc] at N0
  have HB0 := below_seq bb1 bb2
  obtain ⟨V4, V6, V8, V10, V11, r4, r6, r8, r10, r11, M11, c11, d11, e11, B11⟩ := ways_made ((w.alloc (.cells #[.int .i64 c.op, .string c.s, .string c.g.s, .int .i64 c.g.k, .int .i64 c.g.l, .int .i64 c.d.k, .int .u64 c.d.b, .string c.d.t, .slice Q n qc] 76)).alloc (.cells #[.slice none 0 0, .slice none 0 0, .slice none 0 0] 96))
  have HB := below_seq HB0 B11
  have C1 := C0.below B11
  have N1 := N0.below B11
  have szV : w.heap.size + 1 < V11.heap.size := N1.lt
  have hA1 := hA.below HB
  have RQ1 := RQ.below HB
  have hmk := make_map
  obtain ⟨a0, a1, a2, a3, a4, a5, a6, a7, a8⟩ := C0.c9
  obtain ⟨A0, A1, A2, A3, A4, A5, A6, A7, A8⟩ := C1.c9
  obtain ⟨n1, n2, n3, o1, o2, o3⟩ := N1.f3
  have HM := Lib.hid hm
  have HN := Lib.hid hn
  have hlk0 : ∀ o : Int, o = 5 → (Instr.lookup 206 (.map (some ((w.alloc (.cells #[.int .i64 c.op, .string c.s, .string c.g.s, .int .i64 c.g.k, .int .i64 c.g.l, .int .i64 c.d.k, .int .u64 c.d.b, .string c.d.t, .slice Q n qc] 76)).alloc (.cells #[.slice none 0 0, .slice none 0 0, .slice none 0 0] 96)).heap.size)) (.int .i64 o) true).run Tryz.prog V11 = .ok (.tuple #[(.func (.func 140) #[] #[]), .bool true]) V11 := by
    rintro o rfl
    exact map_some keyed5 Tryz.underlying206 M11 (keys5 (ks := [1, 2, 3, 4, 5]) rfl (by simp)) (key5 (by omega) (by omega)) ⟨ent (.int .i64 5) (.func (.func 140) #[] #[]) 4, by simp, rfl⟩ (by intro x hx hk; simp at hx; rcases hx with rfl | rfl | rfl | rfl | rfl <;> first | rfl | (simp [ent] at hk)) true
  have hlk := hlk0 c.op hop
  clear hlk0
  simp only [World.size_alloc] at r4 r6 r8 r10 r11 hlk M11
  have HR := Lib.hid hr
  clear hr hop
  have HV := Lib.hid hv
  clear hv
  have HRT := Lib.hid hrt
  clear hrt
  go_enter Tryz.func97, Tryz.ntmps97
  go_upto_region 7 with (first
    | (go_at_call 136; refine (named_func _ _ _ _).mono ?_; rintro e w' ⟨rfl, rfl⟩)
    | (go_at_call 62; refine (Right_m A cA m l HM.out true HR.out _ hA1 hl).mono ?_; rintro e W0 ⟨rfl, hb⟩; replace HB := HB.trans (hb.mono HB.size); replace hA1 := hA1.below hb; replace RQ1 := RQ1.below hb; replace C1 := C1.below hb; replace N1 := N1.below hb; have c12 := cell_below (B := 0) hb c11; have d12 := cell_below (B := 0) hb d11; have e12 := cell_below (B := 0) hb e11; clear hb A0 A1 A2 A3 A4 A5 A6 A7 A8 n1 n2 n3 o1 o2 o3; obtain ⟨A0, A1, A2, A3, A4, A5, A6, A7, A8⟩ := C1.c9; obtain ⟨n1, n2, n3, o1, o2, o3⟩ := N1.f3))
  have szW : w.heap.size + 1 < W0.heap.size := N1.lt
  have hAd : Rd W0.drew A (cellsF l) := hA1
  have hAe : Rd (W0.drew.alloc (.cells #[.slice none 0 0, .slice none 0 0, .slice none 0 0] 96)) A (cellsF l) := Rd.below (w := W0.drew) hA1 (below_new _)
  have hAf : Rd (W0.alloc (.cells #[.slice none 0 0, .slice none 0 0, .slice none 0 0] 96)).drew A (cellsF l) := hA1.below (Below.drew (below_new _))
  obtain ⟨E0, E1, E2, E3, E4, E5, E6, E7, E8⟩ := (C1.below (below_new (.cells #[.slice none 0 0, .slice none 0 0, .slice none 0 0] 96))).c9
  clear a0 a1 a2 a3 a4 a5 a6 a7 a8 r4 r6 r8 r10 r11 hlk M11 c11 d11 e11 C0 N0 HB0 hmk B11
  go_cut [9, 10] (fun s9 s10 wx => ∃ p X0 y0 z0 X1 y1 z1 X2 y2 z2, s9 = .pointer (some ⟨p, 0, none⟩) ∧ s10 = .int .i64 0 ∧ OBox wx p [.slice X0 y0 z0, .slice X1 y1 z1, .slice X2 y2 z2] 96 ∧ Hid (TVP (fun g => w.heap.size + 2 ≤ g) wx (.agg #[.slice X0 y0 z0, .slice X1 y1 z1, .slice X2 y2 z2]) ⟨l, c.q.map fun x => (l[x.toNat]?).getD Fd.z, c.q.map fun x => ⟨x, Vl.z⟩⟩) ∧ OBox wx (w.heap.size + 1) [.slice none 0 0, .slice none 0 0, .slice none 0 0] 96 ∧ Below w.heap.size w wx)
  case first =>
    go_region_with (first
      | (go_at_call 45; refine (TSame_yes A cA m l HM.out HR.out _ (by with_reducible assumption) hl hcA).mono ?_; rintro e W1 ⟨B, d, v2, v3, b1, b2, rfl, hb1, hb12, hb2, R1, hBl, own2, lt2, own3, hbS⟩; obtain ⟨X2, z2, rfl, u1, u2, u3⟩ := own_rd own2; obtain ⟨X3, z3, rfl, u4, u5, u6⟩ := own_rd own3; clear u1 u2 u3 u4 u5 u6; (first | (have h01 : Below W0.heap.size W0 W1 := (by with_reducible exact Below.undrewS hbS); obtain ⟨a, haE, ha2, hBa⟩ : ∃ a, a = W0.heap.size ∧ a ≤ b1 ∧ (∀ ad, B = some ad → a ≤ ad.block) := ⟨_, rfl, hb1, fun ad e => (hBl ad e).1⟩) | (have h01 : Below W0.heap.size W0 W1 := (by first | with_reducible exact Below.undrewA hbS | with_reducible exact Below.undrewB hbS); obtain ⟨a, haE, ha2, hBa⟩ : ∃ a, a = W0.heap.size + 1 ∧ a ≤ b1 ∧ (∀ ad, B = some ad → a ≤ ad.block) := ⟨_, rfl, by simpa using hb1, fun ad e => by have := (hBl ad e).1; simp at this; omega⟩; have PBX : OBox W1 W0.heap.size [.slice none 0 0, .slice none 0 0, .slice none 0 0] 96 := (by first | with_reducible exact OBox.newA hbS | with_reducible exact OBox.newB hbS))); have ha0 : W0.heap.size ≤ a := (by omega); have hBu : ∀ ad, B = some ad → ad.block < W1.heap.size := (fun ad e => by have := (hBl ad e).2; omega); clear hb1 hBl hbS; have HAE := Lib.hid haE; clear haE; have C2 := C1.below h01; have C3 := C2.below (below_new (.cells #[.slice none 0 0, .slice none 0 0, .slice none 0 0] 96)); obtain ⟨G0, G1, G2, G3, G4, G5, G6, G7, G8⟩ := C2.c9; obtain ⟨K0, K1, K2, K3, K4, K5, K6, K7, K8⟩ := C3.c9)
      | (go_at_call 140; refine (orders_yes_at (by first | with_reducible exact Below.refl _ _ | with_reducible exact below_new _) l c m HM.out h16 B d b1 b2 a _ _ Q n qc HN.out hn1 hqc (RQ1.below h01) ha2 hb12 hb2 R1 hBa own2 lt2 own3 x0 x1 hBu _ _ _ rfl _ _ _ rfl HV.out).mono ?_; rintro e W3 ⟨X0, y0, z0, X1, y1, z1, X4, y4, z4, rfl, hTV, hO⟩; have HT := Lib.hid hTV; clear hTV; (first | (have PB3 := PBX.only hO (by intro e; have := own_base own2 _ e.symm; have := HAE.out; omega) (by intro e; have := own_base own3 _ e.symm; have := HAE.out; omega); obtain ⟨s1, s2, s3, t1, t2, t3⟩ := PB3.f3) | (have PB3 : OBox W3 W1.heap.size [.slice none 0 0, .slice none 0 0, .slice none 0 0] 96 := (by refine OBox.only ?_ hO (by intro e; have := own_lt own2 _ e.symm; omega) (by intro e; have := own_lt own3 _ e.symm; omega); exact OBox.new _ _ _); obtain ⟨s1, s2, s3, t1, t2, t3⟩ := PB3.f3) | skip)))
    all_goals (go_wp2_with fail; go_meet; refine ⟨_, X0, y0, z0, X1, y1, z1, X4, y4, z4, rfl, rfl, ?_⟩)
    all_goals
      have hr2 : ∀ g, (Value.slice X2 m z2).ownBlock = some g → W0.heap.size ≤ g := fun g hg => by have := own_base own2 g hg; omega
      have hr3 : ∀ g, (Value.slice X3 m z3).ownBlock = some g → W0.heap.size ≤ g := fun g hg => by have := own_base own3 g hg; omega
      have haW : a ≤ W1.heap.size := by omega
      first
        | (obtain ⟨q1, q2, q3, q4⟩ := meet_make (x := .slice X0 y0 z0) (y := .slice X1 y1 z1) (z := .slice X4 y4 z4) HB ha0 haW szW h01 (by first | with_reducible exact Below.refl _ _ | with_reducible exact below_new _) hO hr2 hr3 HT.out (Below.refl _ _) PB3 (.inl (by have := HAE.out; omega)) (Nat.le_refl _) N1; exact ⟨q1, Lib.hid (q2 (by first | trivial | rfl)), q3, q4⟩)
        | (obtain ⟨q1, q2, q3, q4⟩ := meet_make (x := .slice X0 y0 z0) (y := .slice X1 y1 z1) (z := .slice X4 y4 z4) HB ha0 haW szW h01 (by with_reducible exact below_new _) hO hr2 hr3 HT.out (Below.refl _ _) PB3 (.inr (.inl ⟨Nat.le_refl _, by simp⟩)) h01.size N1; exact ⟨q1, Lib.hid (q2 (by first | trivial | rfl)), q3, q4⟩)
        | (obtain ⟨q1, q2, q3, q4⟩ := meet_last (x := .slice X0 y0 z0) (y := .slice X1 y1 z1) (z := .slice X4 y4 z4) (T := 96) HB ha0 haW szW h01 (by first | with_reducible exact Below.refl _ _ | with_reducible exact below_new _) hO hr2 hr3 HT.out N1; exact ⟨q1, Lib.hid (q2 (by first | trivial | rfl)), q3, q4⟩)
  case rest =>
    clear RQ1 C1 HB N1 hA1 hAd hAe hAf c12 d12 e12 A0 A1 A2 A3 A4 A5 A6 A7 A8 n1 n2 n3 o1 o2 o3 E0 E1 E2 E3 E4 E5 E6 E7 E8 szW szV
    obtain ⟨p, X0, y0, z0, X1, y1, z1, X2, y2, z2, rfl, rfl, PB, HT, N1, HB⟩ := hcut
    obtain ⟨i1, i2, i3, j1, j2, j3⟩ := PB.f3
    obtain ⟨n1, n2, n3, o1, o2, o3⟩ := N1.f3
    obtain ⟨_, _, _, _, _, _, ev, hd, R0, R1, R2⟩ := HT.out
    cases ev
    have HW : Hid (MvW (⟨l, c.q.map fun x => (l[x.toNat]?).getD Fd.z, c.q.map fun x => ⟨x, Vl.z⟩⟩ : Tb).m) := Lib.hid (w_ord c.q)
    have l1 : Hid ((⟨l, c.q.map fun x => (l[x.toNat]?).getD Fd.z, c.q.map fun x => ⟨x, Vl.z⟩⟩ : Tb).n.length ≤ 9223372036854775807 ∧ (⟨l, c.q.map fun x => (l[x.toNat]?).getD Fd.z, c.q.map fun x => ⟨x, Vl.z⟩⟩ : Tb).m.length ≤ 9223372036854775807) := Lib.hid (by simp [HN.out]; omega)
    have l0 : Hid ((⟨l, c.q.map fun x => (l[x.toNat]?).getD Fd.z, c.q.map fun x => ⟨x, Vl.z⟩⟩ : Tb).o.length ≤ 9223372036854775807) := Lib.hid (by show l.length ≤ _; rw [HM.out]; exact hl)
    have R0r := R0.rd
    have R1r := R1.rd
    have R2r := R2.rd
    generalize hT : (⟨l, c.q.map fun x => (l[x.toNat]?).getD Fd.z, c.q.map fun x => ⟨x, Vl.z⟩⟩ : Tb) = T at *
    cases r
    · go_wp2_with (go_at_call 72; refine (TRight_m T _ _ _ _ _ _ _ _ _ rfl rfl rfl l0.out l1.out.1 l1.out.2 HW.out _ R0r R1r R2r).mono ?_; rintro e wM ⟨rfl, hb⟩; rw [HRT.out]; replace HB := HB.trans (hb.mono HB.size); replace PB := PB.below hb; replace N1 := N1.below hb; clear hb i1 i2 i3 j1 j2 j3 n1 n2 n3 o1 o2 o3; obtain ⟨i1, i2, i3, j1, j2, j3⟩ := PB.f3; obtain ⟨n1, n2, n3, o1, o2, o3⟩ := N1.f3)
      refine bodyPost_ret (v := .tuple #[.agg #[.slice none 0 0, .slice none 0 0, .slice none 0 0], .int .i64 80]) (by simp [results, Tryz.results97, go_sem, *]; done) rfl ⟨_, _, _, _, _, _, _, _, _, rfl, TVP.z _ _, ?_⟩
      exact ((HB.setCell (by show w.heap.size ≤ w.heap.size + 1; omega) _).setCell (by show w.heap.size ≤ w.heap.size + 1; omega) _).setCell (by show w.heap.size ≤ w.heap.size + 1; omega) _
    · go_wp2_with (go_at_call 72; refine (TRight_m T _ _ _ _ _ _ _ _ _ rfl rfl rfl l0.out l1.out.1 l1.out.2 HW.out _ R0r R1r R2r).mono ?_; rintro e wM ⟨rfl, hb⟩; rw [HRT.out]; replace HB := HB.trans (hb.mono HB.size); replace PB := PB.below hb; replace N1 := N1.below hb; have HTV := Lib.hid (TVP.keep HT.out.lt (fun g hg => hb.block g hg.2)); clear hb i1 i2 i3 j1 j2 j3 n1 n2 n3 o1 o2 o3; obtain ⟨i1, i2, i3, j1, j2, j3⟩ := PB.f3; obtain ⟨n1, n2, n3, o1, o2, o3⟩ := N1.f3)
      refine bodyPost_ret (v := .tuple #[.agg #[.slice X0 T.o.length z0, .slice X1 T.n.length z1, .slice X2 T.m.length z2], .int .i64 0]) (by simp [results, Tryz.results97, go_sem, *]; done) rfl ⟨_, _, _, _, _, _, _, _, _, rfl, ?_, ?_⟩
      · rw [show (bif true then ⟨l, c.q.map fun x => (l[x.toNat]?).getD Fd.z, c.q.map fun x => ⟨x, Vl.z⟩⟩ else Tb.z) = T from hT]
        refine (HTV.out.keep (fun g hg => ?_)).mono (fun g hg => ?_)
        · have h := hg.1
          exact (Below.heap_setCell _ _ _ _ (by show g ≠ w.heap.size + 1; omega)).trans ((Below.heap_setCell _ _ _ _ (by show g ≠ w.heap.size + 1; omega)).trans (Below.heap_setCell _ _ _ _ (by show g ≠ w.heap.size + 1; omega)))
        · have h := hg.1
          show w.heap.size ≤ g
          omega
      · exact ((HB.setCell (by show w.heap.size ≤ w.heap.size + 1; omega) _).setCell (by show w.heap.size ≤ w.heap.size + 1; omega) _).setCell (by show w.heap.size ≤ w.heap.size + 1; omega) _
end Go.Proofs.YteembinfgbapgaaGreat
/- Layer 8 of the heap, changes: what the program makes of a change, where it cannot be. -/
set_option linter.unusedSimpArgs false
set_option linter.unusedVariables false
set_option maxRecDepth 100000
namespace Go.Proofs.YteembinfgbapgaaGreat
open Go.RowKit Go.Lib Go.Maps

theorem infoFn : (Tryz.prog.info? 203).map (fun i => (i.zero, i.size, i.bytes)) = some (some Value.nilFunc, 1, 8) := by kernel_rfl
theorem zeroFn (w : World) : (zeroValue 203).run Tryz.prog w = .ok Value.nilFunc w := by
  obtain ⟨i0, hi0, hz0, _, _⟩ := info_parts infoFn
  simp only [zeroValue, Sem.run_bind, run_typeInfo _ hi0, Result.andThen_ok, hz0, Sem.run_pure]
theorem look_any {V11 : World} {b : Nat} {F1 F2 F3 F4 F5 : Value} (M : MBk V11 b [ent (.int .i64 1) F1 0, ent (.int .i64 2) F2 1, ent (.int .i64 3) F3 2, ent (.int .i64 4) F4 3, ent (.int .i64 5) F5 4] 5) (o : Int) (p0 : -9223372036854775808 ≤ o) (p1 : o ≤ 9223372036854775807) :
    ∃ v is, (Instr.lookup 206 (.map (some b)) (.int .i64 o) true).run Tryz.prog V11 = .ok (.tuple #[v, .bool is]) V11 ∧ ((¬ (1 ≤ o ∧ o ≤ 5)) → is = false ∧ v = Value.nilFunc) := by
  have hk := keys5 (es := [ent (.int .i64 1) F1 0, ent (.int .i64 2) F2 1, ent (.int .i64 3) F3 2, ent (.int .i64 4) F4 3, ent (.int .i64 5) F5 4]) (ks := [1, 2, 3, 4, 5]) rfl (by simp)
  by_cases h : 1 ≤ o ∧ o ≤ 5
  · rcases (by omega : o = 1 ∨ o = 2 ∨ o = 3 ∨ o = 4 ∨ o = 5) with rfl | rfl | rfl | rfl | rfl
    · exact ⟨F1, true, map_some keyed5 Tryz.underlying206 M hk (key5 (by omega) (by omega)) ⟨ent (.int .i64 1) F1 0, by simp, rfl⟩ (by intro x hx hk; simp at hx; rcases hx with rfl | rfl | rfl | rfl | rfl <;> first | rfl | (simp [ent] at hk)) true, fun h' => absurd h h'⟩
    · exact ⟨F2, true, map_some keyed5 Tryz.underlying206 M hk (key5 (by omega) (by omega)) ⟨ent (.int .i64 2) F2 1, by simp, rfl⟩ (by intro x hx hk; simp at hx; rcases hx with rfl | rfl | rfl | rfl | rfl <;> first | rfl | (simp [ent] at hk)) true, fun h' => absurd h h'⟩
    · exact ⟨F3, true, map_some keyed5 Tryz.underlying206 M hk (key5 (by omega) (by omega)) ⟨ent (.int .i64 3) F3 2, by simp, rfl⟩ (by intro x hx hk; simp at hx; rcases hx with rfl | rfl | rfl | rfl | rfl <;> first | rfl | (simp [ent] at hk)) true, fun h' => absurd h h'⟩
    · exact ⟨F4, true, map_some keyed5 Tryz.underlying206 M hk (key5 (by omega) (by omega)) ⟨ent (.int .i64 4) F4 3, by simp, rfl⟩ (by intro x hx hk; simp at hx; rcases hx with rfl | rfl | rfl | rfl | rfl <;> first | rfl | (simp [ent] at hk)) true, fun h' => absurd h h'⟩
    · exact ⟨F5, true, map_some keyed5 Tryz.underlying206 M hk (key5 (by omega) (by omega)) ⟨ent (.int .i64 5) F5 4, by simp, rfl⟩ (by intro x hx hk; simp at hx; rcases hx with rfl | rfl | rfl | rfl | rfl <;> first | rfl | (simp [ent] at hk)) true, fun h' => absurd h h'⟩
  · refine ⟨Value.nilFunc, false, map_none keyed5 Tryz.underlying206 M hk (key5 p0 p1) (keys_ne (ks := [1, 2, 3, 4, 5]) rfl (by simp; omega)) (zeroFn V11) true, fun _ => ⟨rfl, rfl⟩⟩
set_option maxHeartbeats 1000000 in
theorem Make_form (l : List Fd) (c : Ch) (m : Nat) (hm : l.length = m) (hl : m ≤ 9223372036854775807) (A : Option Addr) (cA : Nat) (hcA : m ≤ cA) (Q : Option Addr) (n qc : Nat) (hn : c.q.length = n) (hn1 : n ≤ 17592186044415) (hqc : n ≤ qc) (p0 : -9223372036854775808 ≤ c.op) (p1 : c.op ≤ 9223372036854775807) (x0 : 0 ≤ c.d.b) (x1 : c.d.b < 18446744073709551616) (w : World) (hA : Rd w A (cellsF l)) (RQ : Rd w Q (cellsI c.q)) (hr : rightF l = false) :
    Calls Tryz.prog 97 #[.slice A m cA, .agg #[.int .i64 c.op, .string c.s, .string c.g.s, .int .i64 c.g.k, .int .i64 c.g.l, .int .i64 c.d.k, .int .u64 c.d.b, .string c.d.t, .slice Q n qc]] w fun e w' => MkP Tb.z 60 w e w' := by
  have bb1 := below_new (w := w) (.cells #[.int .i64 c.op, .string c.s, .string c.g.s, .int .i64 c.g.k, .int .i64 c.g.l, .int .i64 c.d.k, .int .u64 c.d.b, .string c.d.t, .slice Q n qc] 76)
  have bb2 := below_new (w := w.alloc (.cells #[.int .i64 c.op, .string c.s, .string c.g.s, .int .i64 c.g.k, .int .i64 c.g.l, .int .i64 c.d.k, .int .u64 c.d.b, .string c.d.t, .slice Q n qc] 76)) (.cells #[.slice none 0 0, .slice none 0 0, .slice none 0 0] 96)
  have C0 : CBox _ _ c (.slice Q n qc) 76 := (OBox.new w (chL c (.slice Q n qc)) 76).below bb2
  have N0 := OBox.new (w.alloc (.cells #[.int .i64 c.op, .string c.s, .string c.g.s, .int .i64 c.g.k, .int .i64 c.g.l, .int .i64 c.d.k, .int .u64 c.d.b, .string c.d.t, .slice Q n qc] 76)) [.slice none 0 0, .slice none 0 0, .slice none 0 0] 96
  rw [World.size_alloc] at N0
  have HB0 := below_seq bb1 bb2
  obtain ⟨V4, V6, V8, V10, V11, r4, r6, r8, r10, r11, M11, c11, d11, e11, B11⟩ := ways_made ((w.alloc (.cells #[.int .i64 c.op, .string c.s, .string c.g.s, .int .i64 c.g.k, .int .i64 c.g.l, .int .i64 c.d.k, .int .u64 c.d.b, .string c.d.t, .slice Q n qc] 76)).alloc (.cells #[.slice none 0 0, .slice none 0 0, .slice none 0 0] 96))
  have HB := below_seq HB0 B11
  have C1 := C0.below B11
  have N1 := N0.below B11
  have szV : w.heap.size + 1 < V11.heap.size := N1.lt
  have hA1 := hA.below HB
  have RQ1 := RQ.below HB
  have hmk := make_map
  obtain ⟨a0, a1, a2, a3, a4, a5, a6, a7, a8⟩ := C0.c9
  obtain ⟨A0, A1, A2, A3, A4, A5, A6, A7, A8⟩ := C1.c9
  obtain ⟨n1, n2, n3, o1, o2, o3⟩ := N1.f3
  have HM := Lib.hid hm
  have HN := Lib.hid hn
  obtain ⟨fv, is, hlk, hno⟩ := look_any M11 c.op p0 p1
  simp only [World.size_alloc] at r4 r6 r8 r10 r11 hlk M11
  have HR := Lib.hid hr
  clear hr
  go_enter Tryz.func97, Tryz.ntmps97
  go_wp2_with (first
    | (go_at_call 136; refine (named_func _ _ _ _).mono ?_; rintro e w' ⟨rfl, rfl⟩)
    | (go_at_call 62; refine (Right_m A cA m l HM.out false HR.out _ hA1 hl).mono ?_; rintro e W0 ⟨rfl, hb⟩; replace HB := HB.trans (hb.mono HB.size); replace hA1 := hA1.below hb; replace RQ1 := RQ1.below hb; replace C1 := C1.below hb; replace N1 := N1.below hb; have c12 := cell_below (B := 0) hb c11; have d12 := cell_below (B := 0) hb d11; have e12 := cell_below (B := 0) hb e11; clear hb A0 A1 A2 A3 A4 A5 A6 A7 A8 n1 n2 n3 o1 o2 o3; obtain ⟨A0, A1, A2, A3, A4, A5, A6, A7, A8⟩ := C1.c9; obtain ⟨n1, n2, n3, o1, o2, o3⟩ := N1.f3))
  refine bodyPost_ret (v := .tuple #[.agg #[.slice none 0 0, .slice none 0 0, .slice none 0 0], .int .i64 60]) (by simp [results, Tryz.results97, go_sem, *]; done) rfl ⟨_, _, _, _, _, _, _, _, _, rfl, TVP.z _ _, ?_⟩
  exact ((HB.setCell (by show w.heap.size ≤ w.heap.size + 1; omega) _).setCell (by show w.heap.size ≤ w.heap.size + 1; omega) _).setCell (by show w.heap.size ≤ w.heap.size + 1; omega) _
set_option maxHeartbeats 1000000 in
theorem Make_op (l : List Fd) (c : Ch) (m : Nat) (hm : l.length = m) (hl : m ≤ 9223372036854775807) (A : Option Addr) (cA : Nat) (hcA : m ≤ cA) (Q : Option Addr) (n qc : Nat) (hn : c.q.length = n) (hn1 : n ≤ 17592186044415) (hqc : n ≤ qc) (p0 : -9223372036854775808 ≤ c.op) (p1 : c.op ≤ 9223372036854775807) (x0 : 0 ≤ c.d.b) (x1 : c.d.b < 18446744073709551616) (w : World) (hA : Rd w A (cellsF l)) (RQ : Rd w Q (cellsI c.q)) (hr : rightF l = true) (hop : ¬ (1 ≤ c.op ∧ c.op ≤ 5)) :
    Calls Tryz.prog 97 #[.slice A m cA, .agg #[.int .i64 c.op, .string c.s, .string c.g.s, .int .i64 c.g.k, .int .i64 c.g.l, .int .i64 c.d.k, .int .u64 c.d.b, .string c.d.t, .slice Q n qc]] w fun e w' => MkP Tb.z 80 w e w' := by
  have bb1 := below_new (w := w) (.cells #[.int .i64 c.op, .string c.s, .string c.g.s, .int .i64 c.g.k, .int .i64 c.g.l, .int .i64 c.d.k, .int .u64 c.d.b, .string c.d.t, .slice Q n qc] 76)
  have bb2 := below_new (w := w.alloc (.cells #[.int .i64 c.op, .string c.s, .string c.g.s, .int .i64 c.g.k, .int .i64 c.g.l, .int .i64 c.d.k, .int .u64 c.d.b, .string c.d.t, .slice Q n qc] 76)) (.cells #[.slice none 0 0, .slice none 0 0, .slice none 0 0] 96)
  have C0 : CBox _ _ c (.slice Q n qc) 76 := (OBox.new w (chL c (.slice Q n qc)) 76).below bb2
  have N0 := OBox.new (w.alloc (.cells #[.int .i64 c.op, .string c.s, .string c.g.s, .int .i64 c.g.k, .int .i64 c.g.l, .int .i64 c.d.k, .int .u64 c.d.b, .string c.d.t, .slice Q n qc] 76)) [.slice none 0 0, .slice none 0 0, .slice none 0 0] 96
  rw [World.size_alloc] at N0
  have HB0 := below_seq bb1 bb2
  obtain ⟨V4, V6, V8, V10, V11, r4, r6, r8, r10, r11, M11, c11, d11, e11, B11⟩ := ways_made ((w.alloc (.cells #[.int .i64 c.op, .string c.s, .string c.g.s, .int .i64 c.g.k, .int .i64 c.g.l, .int .i64 c.d.k, .int .u64 c.d.b, .string c.d.t, .slice Q n qc] 76)).alloc (.cells #[.slice none 0 0, .slice none 0 0, .slice none 0 0] 96))
  have HB := below_seq HB0 B11
  have C1 := C0.below B11
  have N1 := N0.below B11
  have szV : w.heap.size + 1 < V11.heap.size := N1.lt
  have hA1 := hA.below HB
  have RQ1 := RQ.below HB
  have hmk := make_map
  obtain ⟨a0, a1, a2, a3, a4, a5, a6, a7, a8⟩ := C0.c9
  obtain ⟨A0, A1, A2, A3, A4, A5, A6, A7, A8⟩ := C1.c9
  obtain ⟨n1, n2, n3, o1, o2, o3⟩ := N1.f3
  have HM := Lib.hid hm
  have HN := Lib.hid hn
  obtain ⟨fv, is, hlk, hno⟩ := look_any M11 c.op p0 p1
  obtain ⟨rfl, rfl⟩ := hno hop
  clear hno hop
  simp only [World.size_alloc] at r4 r6 r8 r10 r11 hlk M11
  have HR := Lib.hid hr
  clear hr
  go_enter Tryz.func97, Tryz.ntmps97
  go_wp2_with (first
    | (go_at_call 136; refine (named_func _ _ _ _).mono ?_; rintro e w' ⟨rfl, rfl⟩)
    | (go_at_call 62; refine (Right_m A cA m l HM.out true HR.out _ hA1 hl).mono ?_; rintro e W0 ⟨rfl, hb⟩; replace HB := HB.trans (hb.mono HB.size); replace hA1 := hA1.below hb; replace RQ1 := RQ1.below hb; replace C1 := C1.below hb; replace N1 := N1.below hb; have c12 := cell_below (B := 0) hb c11; have d12 := cell_below (B := 0) hb d11; have e12 := cell_below (B := 0) hb e11; clear hb A0 A1 A2 A3 A4 A5 A6 A7 A8 n1 n2 n3 o1 o2 o3; obtain ⟨A0, A1, A2, A3, A4, A5, A6, A7, A8⟩ := C1.c9; obtain ⟨n1, n2, n3, o1, o2, o3⟩ := N1.f3))
  refine bodyPost_ret (v := .tuple #[.agg #[.slice none 0 0, .slice none 0 0, .slice none 0 0], .int .i64 80]) (by simp [results, Tryz.results97, go_sem, *]; done) rfl ⟨_, _, _, _, _, _, _, _, _, rfl, TVP.z _ _, ?_⟩
  exact ((HB.setCell (by show w.heap.size ≤ w.heap.size + 1; omega) _).setCell (by show w.heap.size ≤ w.heap.size + 1; omega) _).setCell (by show w.heap.size ≤ w.heap.size + 1; omega) _
end Go.Proofs.YteembinfgbapgaaGreat
/- Layer 8 of the heap, changes: what the program makes of any change. -/
set_option linter.unusedSimpArgs false
set_option linter.unusedVariables false
set_option maxRecDepth 100000
namespace Go.Proofs.YteembinfgbapgaaGreat
open Go.RowKit Go.Lib Go.Maps

theorem mk_err {l : List Fd} {c : Ch} {e : Int} (hs : stepE l c = e) (he : e ≠ 0) : makeE l c = e ∧ makeT l c = Tb.z := by
  have h1 : makeE l c = e := by rw [makeE, hs, if_neg he]
  exact ⟨h1, by rw [makeT, h1, if_neg he]⟩
theorem mk_fin {l : List Fd} {c : Ch} {r : Bool} (hs : stepE l c = 0) (h : r = rightF (newF l c)) : (bif r then (0 : Int) else 80) = makeE l c ∧ (bif r then tabC l c else Tb.z) = makeT l c := by
  subst h
  have h1 : makeE l c = if rightF (newF l c) = true then 0 else 80 := by rw [makeE, if_pos hs]
  rw [makeT, h1]
  cases rightF (newF l c) <;> simp
theorem modify_at {l : List Fd} {k : Nat} {f : Fd} (hf : l[k]? = some f) (g : Fd → Fd) : l.modify k g = l.set k (g f) := by
  apply List.ext_getElem?
  intro i
  rw [List.getElem?_modify, List.getElem?_set]
  by_cases h : k = i
  · subst h
    obtain ⟨hk, he⟩ := List.getElem?_eq_some_iff.1 hf
    simp [hk, he]
  · simp [h]
theorem Make_m (l : List Fd) (c : Ch) (m : Nat) (hm : l.length = m) (hl : m ≤ 9223372036854775807) (A : Option Addr) (cA : Nat) (hcA : m ≤ cA) (Q : Option Addr) (n qc : Nat) (hn : c.q.length = n) (hn1 : n ≤ 17592186044415) (hqc : n ≤ qc) (p0 : -9223372036854775808 ≤ c.op) (p1 : c.op ≤ 9223372036854775807) (x0 : 0 ≤ c.d.b) (x1 : c.d.b < 18446744073709551616) (w : World) (hA : Rd w A (cellsF l)) (RQ : Rd w Q (cellsI c.q)) :
    Calls Tryz.prog 97 #[.slice A m cA, .agg #[.int .i64 c.op, .string c.s, .string c.g.s, .int .i64 c.g.k, .int .i64 c.g.l, .int .i64 c.d.k, .int .u64 c.d.b, .string c.d.t, .slice Q n qc]] w fun e w' => MkP (makeT l c) (makeE l c) w e w' := by
  cases hr : rightF l
  · obtain ⟨e1, e2⟩ := mk_err (l := l) (c := c) (e := 60) (by simp [stepE, hr]) (by decide)
    rw [e1, e2]
    exact Make_form l c m hm hl A cA hcA Q n qc hn hn1 hqc p0 p1 x0 x1 w hA RQ hr
  by_cases hop : 1 ≤ c.op ∧ c.op ≤ 5
  · rcases (by omega : c.op = 1 ∨ c.op = 2 ∨ c.op = 3 ∨ c.op = 4 ∨ c.op = 5) with e | e | e | e | e
    · cases hv : rightB c.d.k c.d.b c.d.t c.g.k c.g.l
      · obtain ⟨e1, e2⟩ := mk_err (l := l) (c := c) (e := 80) (by simp [stepE, hr, e, okVal, hv]) (by decide)
        rw [e1, e2]
        exact Make_adds_no l c m hm hl A cA hcA Q n qc hn hn1 hqc p0 p1 x0 x1 w hA RQ e hr hv
      · have hT : tabC l c = ⟨l, l ++ [c.g], kM m ++ [⟨-1, c.d⟩]⟩ := by simp [tabC, newF, newM, e, hm]
        have hR := tabC_right hr hop (by omega) (by omega) (by omega)
        have hm1 := Make_adds_yes l c m hm hl A cA hcA Q n qc hn hn1 hqc p0 p1 x0 x1 w hA RQ e hr hv _ rfl
        rw [← hT] at hm1
        cases hok : okVal c
        · obtain ⟨e1, e2⟩ := mk_err (l := l) (c := c) (e := 80) (by simp [stepE, hr, e, hok]) (by decide)
          rw [e1, e2]
          rw [hok, e] at hR
          simp at hR
          rw [hR] at hm1
          exact hm1
        · rw [hok] at hR
          simp at hR
          obtain ⟨e1, e2⟩ := mk_fin (l := l) (c := c) (by simp [stepE, hr, e, hok]) hR
          rw [← e1, ← e2]
          exact hm1
    · by_cases hz : findZ l c.s < 0
      · obtain ⟨e1, e2⟩ := mk_err (l := l) (c := c) (e := 61) (by simp [stepE, hr, e, hz]) (by decide)
        rw [e1, e2]
        exact Make_none2 l c m hm hl A cA hcA Q n qc hn hn1 hqc p0 p1 x0 x1 w hA RQ e hr hz
      · have hk : findZ l c.s = (atC l c : Nat) := by unfold atC; omega
        have hT : tabC l c = ⟨l, l.eraseIdx (atC l c), (kM m).eraseIdx (atC l c)⟩ := by simp [tabC, newF, newM, e, hm]
        have hR := tabC_right hr hop (by omega) (by omega) (by omega)
        have hm1 := Make_drops l c m hm hl A cA hcA Q n qc hn hn1 hqc p0 p1 x0 x1 w hA RQ e hr _ hk _ rfl
        rw [← hT] at hm1
        simp [e] at hR
        obtain ⟨e1, e2⟩ := mk_fin (l := l) (c := c) (by simp [stepE, hr, e, hz]) hR
        rw [← e1, ← e2]
        exact hm1
    · by_cases hz : findZ l c.s < 0
      · obtain ⟨e1, e2⟩ := mk_err (l := l) (c := c) (e := 61) (by simp [stepE, hr, e, hz]) (by decide)
        rw [e1, e2]
        exact Make_none3 l c m hm hl A cA hcA Q n qc hn hn1 hqc p0 p1 x0 x1 w hA RQ e hr hz
      · have hk : findZ l c.s = (atC l c : Nat) := by unfold atC; omega
        obtain ⟨f, hf⟩ : ∃ f, l[atC l c]? = some f := ⟨_, List.getElem?_eq_getElem (atC_lt hz)⟩
        have hT : tabC l c = ⟨l, l.set (atC l c) ⟨c.g.s, f.k, f.l⟩, kM m⟩ := by simp [tabC, newF, newM, e, hm, modify_at hf]
        have hR := tabC_right hr hop (by omega) (by omega) (by omega)
        have hm1 := Make_renames l c m hm hl A cA hcA Q n qc hn hn1 hqc p0 p1 x0 x1 w hA RQ e hr _ hk f hf _ rfl
        rw [← hT] at hm1
        simp [e] at hR
        obtain ⟨e1, e2⟩ := mk_fin (l := l) (c := c) (by simp [stepE, hr, e, hz]) hR
        rw [← e1, ← e2]
        exact hm1
    · by_cases hz : findZ l c.s < 0
      · obtain ⟨e1, e2⟩ := mk_err (l := l) (c := c) (e := 61) (by simp [stepE, hr, e, hz]) (by decide)
        rw [e1, e2]
        exact Make_none4 l c m hm hl A cA hcA Q n qc hn hn1 hqc p0 p1 x0 x1 w hA RQ e hr hz
      · have hk : findZ l c.s = (atC l c : Nat) := by unfold atC; omega
        obtain ⟨f, hf⟩ : ∃ f, l[atC l c]? = some f := ⟨_, List.getElem?_eq_getElem (atC_lt hz)⟩
        have hca : castsAt l c = castsB f.k f.l c.g.k c.g.l := by simp [castsAt, hf]
        cases hv : castsB f.k f.l c.g.k c.g.l
        · obtain ⟨e1, e2⟩ := mk_err (l := l) (c := c) (e := 80) (by simp [stepE, hr, e, hz, hca, hv]) (by decide)
          rw [e1, e2]
          exact Make_recasts_no l c m hm hl A cA hcA Q n qc hn hn1 hqc p0 p1 x0 x1 w hA RQ e hr _ hk f hf hv
        · have hT : tabC l c = ⟨l, l.set (atC l c) ⟨f.s, c.g.k, c.g.l⟩, kM m⟩ := by simp [tabC, newF, newM, e, hm, modify_at hf]
          have hR := tabC_right hr hop (by omega) (fun _ => by rw [hca, hv]) (by omega)
          have hm1 := Make_recasts_yes l c m hm hl A cA hcA Q n qc hn hn1 hqc p0 p1 x0 x1 w hA RQ e hr _ hk f hf hv _ rfl
          rw [← hT] at hm1
          simp [e] at hR
          obtain ⟨e1, e2⟩ := mk_fin (l := l) (c := c) (by simp [stepE, hr, e, hz, hca, hv]) hR
          rw [← e1, ← e2]
          exact hm1
    · cases hv : permB c.q m
      · obtain ⟨e1, e2⟩ := mk_err (l := l) (c := c) (e := 80) (by simp [stepE, hr, e, hm, hv]) (by decide)
        rw [e1, e2]
        exact Make_orders_no l c m hm hl A cA hcA Q n qc hn hn1 hqc p0 p1 x0 x1 w hA RQ e hr hv
      · have hT : tabC l c = ⟨l, c.q.map fun x => (l[x.toNat]?).getD Fd.z, c.q.map fun x => ⟨x, Vl.z⟩⟩ := by simp [tabC, newF, newM, e]
        have hR := tabC_right hr hop (by omega) (by omega) (fun _ => by rw [hm, hv])
        have hm1 := Make_orders_yes l c m hm hl A cA hcA Q n qc hn hn1 hqc p0 p1 x0 x1 w hA RQ e hr hv _ rfl
        rw [← hT] at hm1
        simp [e] at hR
        obtain ⟨e1, e2⟩ := mk_fin (l := l) (c := c) (by simp [stepE, hr, e, hm, hv]) hR
        rw [← e1, ← e2]
        exact hm1
  · obtain ⟨e1, e2⟩ := mk_err (l := l) (c := c) (e := 80) (by simp [stepE, hr, hop]) (by decide)
    rw [e1, e2]
    exact Make_op l c m hm hl A cA hcA Q n qc hn hn1 hqc p0 p1 x0 x1 w hA RQ hr hop
end Go.Proofs.YteembinfgbapgaaGreat
/- A table that grows: its fields and its moves are rows of the call's own. -/
set_option linter.unusedSimpArgs false
set_option linter.unusedVariables false
set_option maxRecDepth 100000
namespace Go.Proofs.YteembinfgbapgaaGreat
open Go.RowKit Go.Lib

/-- a box of a table whose fields and moves are rows of the call's own, in different blocks -/
structure TO (w W : World) (base ob : Nat) (xO vF vM : Value) (fs : List Fd) (ms : List Mv) (T TM : TypeId) : Prop where
  O : OBox W ob [xO, vF, vM] T
  F : W.ownsRow base 68 3 vF fs.length (cellsF fs)
  M : W.ownsRow base TM 4 vM ms.length (cellsM ms)
  ap : ∀ g, vF.ownBlock = some g → vM.ownBlock ≠ some g
  lo : ob < base
  B : Below w.heap.size w W
  hob : w.heap.size ≤ ob
theorem TO.below {w W W' : World} {base ob : Nat} {xO vF vM : Value} {fs : List Fd} {ms : List Mv} {T TM : TypeId} (h : TO w W base ob xO vF vM fs ms T TM) (hb : Below W.heap.size W W') : TO w W' base ob xO vF vM fs ms T TM :=
  ⟨h.O.below hb, own_below h.F hb, own_below h.M hb, h.ap, h.lo, h.B.trans (hb.mono h.B.size), h.hob⟩
/-- a store into a box that is none of the table's -/
theorem TO.store {w W : World} {base ob : Nat} {xO vF vM : Value} {fs : List Fd} {ms : List Mv} {T TM : TypeId} (h : TO w W base ob xO vF vM fs ms T TM) {b : Nat} (j : Nat) (v : Value) (hb : w.heap.size ≤ b) (hne : b ≠ ob) (hF : vF.ownBlock ≠ some b) (hM : vM.ownBlock ≠ some b) : TO w (W.setCell ⟨b, j, none⟩ v) base ob xO vF vM fs ms T TM :=
  ⟨(Below.heap_setCell _ _ _ _ (by show ob ≠ b; omega)).trans h.O, own_keep h.F (fun g hg => Below.heap_setCell _ _ _ _ (by rintro rfl; exact hF hg)), own_keep h.M (fun g hg => Below.heap_setCell _ _ _ _ (by rintro rfl; exact hM hg)), h.ap, h.lo, h.B.setCell hb v, h.hob⟩
theorem TO.lt {w W : World} {base ob : Nat} {xO vF vM : Value} {fs : List Fd} {ms : List Mv} {T TM : TypeId} (h : TO w W base ob xO vF vM fs ms T TM) : ob < W.heap.size := h.O.lt
end Go.Proofs.YteembinfgbapgaaGreat
