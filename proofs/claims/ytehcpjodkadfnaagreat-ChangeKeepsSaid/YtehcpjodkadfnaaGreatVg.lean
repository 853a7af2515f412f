/- Merged out of: Nu Nv Oa Ob Oc Od Oe Of Og. -/
import Derived.Test.YtehcpjodkadfnaaGreatUz
import Derived.Test.YtehcpjodkadfnaaGreatVc
import Derived.Test.YtehcpjodkadfnaaGreatVd
import Derived.Test.YtehcpjodkadfnaaGreatVe
import Derived.Test.YtehcpjodkadfnaaGreatVf
/- Layer 8 of the heap, changes: what the program makes of a change, where it cannot be. -/
set_option linter.unusedSimpArgs false
set_option linter.unusedVariables false
set_option maxRecDepth 100000
namespace Go.Proofs.YtehcpjodkadfnaaGreat
open Go.RowKit Go.Lib Go.Maps

theorem infoFn : (Tryz.prog.info? 78).map (fun i => (i.zero, i.size, i.bytes)) = some (some Value.nilFunc, 1, 8) := by kernel_rfl
theorem zeroFn (w : World) : (zeroValue 78).run Tryz.prog w = .ok Value.nilFunc w := by
  obtain ⟨i0, hi0, hz0, _, _⟩ := info_parts infoFn
  simp only [zeroValue, Sem.run_bind, run_typeInfo _ hi0, Result.andThen_ok, hz0, Sem.run_pure]
theorem look_any {V11 : World} {b : Nat} {F1 F2 F3 F4 F5 : Value} (M : MBk V11 b [ent (.int .i64 1) F1 0, ent (.int .i64 2) F2 1, ent (.int .i64 3) F3 2, ent (.int .i64 4) F4 3, ent (.int .i64 5) F5 4] 5) (o : Int) (p0 : -9223372036854775808 ≤ o) (p1 : o ≤ 9223372036854775807) :
    ∃ v is, (Instr.lookup 81 (.map (some b)) (.int .i64 o) true).run Tryz.prog V11 = .ok (.tuple #[v, .bool is]) V11 ∧ ((¬ (1 ≤ o ∧ o ≤ 5)) → is = false ∧ v = Value.nilFunc) := by
  have hk := keys5 (es := [ent (.int .i64 1) F1 0, ent (.int .i64 2) F2 1, ent (.int .i64 3) F3 2, ent (.int .i64 4) F4 3, ent (.int .i64 5) F5 4]) (ks := [1, 2, 3, 4, 5]) rfl (by simp)
  by_cases h : 1 ≤ o ∧ o ≤ 5
  · rcases (by omega : o = 1 ∨ o = 2 ∨ o = 3 ∨ o = 4 ∨ o = 5) with rfl | rfl | rfl | rfl | rfl
    · exact ⟨F1, true, map_some keyed5 Tryz.underlying81 M hk (key5 (by omega) (by omega)) ⟨ent (.int .i64 1) F1 0, by simp, rfl⟩ (by intro x hx hk; simp at hx; rcases hx with rfl | rfl | rfl | rfl | rfl <;> first | rfl | (simp [ent] at hk)) true, fun h' => absurd h h'⟩
    · exact ⟨F2, true, map_some keyed5 Tryz.underlying81 M hk (key5 (by omega) (by omega)) ⟨ent (.int .i64 2) F2 1, by simp, rfl⟩ (by intro x hx hk; simp at hx; rcases hx with rfl | rfl | rfl | rfl | rfl <;> first | rfl | (simp [ent] at hk)) true, fun h' => absurd h h'⟩
    · exact ⟨F3, true, map_some keyed5 Tryz.underlying81 M hk (key5 (by omega) (by omega)) ⟨ent (.int .i64 3) F3 2, by simp, rfl⟩ (by intro x hx hk; simp at hx; rcases hx with rfl | rfl | rfl | rfl | rfl <;> first | rfl | (simp [ent] at hk)) true, fun h' => absurd h h'⟩
    · exact ⟨F4, true, map_some keyed5 Tryz.underlying81 M hk (key5 (by omega) (by omega)) ⟨ent (.int .i64 4) F4 3, by simp, rfl⟩ (by intro x hx hk; simp at hx; rcases hx with rfl | rfl | rfl | rfl | rfl <;> first | rfl | (simp [ent] at hk)) true, fun h' => absurd h h'⟩
    · exact ⟨F5, true, map_some keyed5 Tryz.underlying81 M hk (key5 (by omega) (by omega)) ⟨ent (.int .i64 5) F5 4, by simp, rfl⟩ (by intro x hx hk; simp at hx; rcases hx with rfl | rfl | rfl | rfl | rfl <;> first | rfl | (simp [ent] at hk)) true, fun h' => absurd h h'⟩
  · refine ⟨Value.nilFunc, false, map_none keyed5 Tryz.underlying81 M hk (key5 p0 p1) (keys_ne (ks := [1, 2, 3, 4, 5]) rfl (by simp; omega)) (zeroFn V11) true, fun _ => ⟨rfl, rfl⟩⟩
set_option maxHeartbeats 1000000 in
theorem Make_form (l : List Fd) (c : Ch) (m : Nat) (hm : l.length = m) (hl : m ≤ 9223372036854775807) (A : Option Addr) (cA : Nat) (hcA : m ≤ cA) (Q : Option Addr) (n qc : Nat) (hn : c.q.length = n) (hn1 : n ≤ 4398046511104) (hqc : n ≤ qc) (p0 : -9223372036854775808 ≤ c.op) (p1 : c.op ≤ 9223372036854775807) (x0 : 0 ≤ c.d.b) (x1 : c.d.b < 18446744073709551616) (w : World) (hA : Rd w A (cellsF l)) (RQ : Rd w Q (cellsI c.q)) (hr : rightF l = false) :
    Calls Tryz.prog 17 #[.slice A m cA, .agg #[.int .i64 c.op, .string c.s, .string c.g.s, .int .i64 c.g.k, .int .i64 c.g.l, .int .i64 c.d.k, .int .u64 c.d.b, .string c.d.t, .slice Q n qc]] w fun e w' => MkP Tb.z 60 w e w' := by
  have bb1 := below_new (w := w) (.cells #[.int .i64 c.op, .string c.s, .string c.g.s, .int .i64 c.g.k, .int .i64 c.g.l, .int .i64 c.d.k, .int .u64 c.d.b, .string c.d.t, .slice Q n qc] 57)
  have bb2 := below_new (w := w.alloc (.cells #[.int .i64 c.op, .string c.s, .string c.g.s, .int .i64 c.g.k, .int .i64 c.g.l, .int .i64 c.d.k, .int .u64 c.d.b, .string c.d.t, .slice Q n qc] 57)) (.cells #[.slice none 0 0, .slice none 0 0, .slice none 0 0] 36)
  have C0 : CBox _ _ c (.slice Q n qc) 57 := (OBox.new w (chL c (.slice Q n qc)) 57).below bb2
  have N0 := OBox.new (w.alloc (.cells #[.int .i64 c.op, .string c.s, .string c.g.s, .int .i64 c.g.k, .int .i64 c.g.l, .int .i64 c.d.k, .int .u64 c.d.b, .string c.d.t, .slice Q n qc] 57)) [.slice none 0 0, .slice none 0 0, .slice none 0 0] 36
  rw [World.size_alloc] at N0
  have HB0 := below_seq bb1 bb2
  obtain ⟨V4, V6, V8, V10, V11, r4, r6, r8, r10, r11, M11, c11, d11, e11, B11⟩ := ways_made ((w.alloc (.cells #[.int .i64 c.op, .string c.s, .string c.g.s, .int .i64 c.g.k, .int .i64 c.g.l, .int .i64 c.d.k, .int .u64 c.d.b, .string c.d.t, .slice Q n qc] 57)).alloc (.cells #[.slice none 0 0, .slice none 0 0, .slice none 0 0] 36))
  have HB := below_seq HB0 B11
  have C1 := C0.below B11
  have N1 := N0.below B11
  have szV : w.heap.size + 1 < V11.heap.size := N1.lt
  have hA1 := hA.below HB
  have RQ1 := RQ.below HB
  have hmk := make_map
  obtain ⟨a0, a1, a2, a3, a4, a5, a6, a7, a8⟩ := C0.c9
  obtain ⟨A0, A1, A2, A3, A4, A5, A6, A7, A8⟩ := C1.c9
  obtain ⟨n1, n2, n3, o1, o2, o3⟩ := N1.f3
  have HM := Lib.hid hm
  have HN := Lib.hid hn
  obtain ⟨fv, is, hlk, hno⟩ := look_any M11 c.op p0 p1
  simp only [World.size_alloc] at r4 r6 r8 r10 r11 hlk M11
  have HR := Lib.hid hr
  clear hr
  go_enter Tryz.func17, Tryz.ntmps17
  go_wp2_with (first
    | (go_at_call 35; refine (named_func _ _ _ _).mono ?_; rintro e w' ⟨rfl, rfl⟩)
    | (go_at_call 21; refine (Right_m A cA m l HM.out false HR.out _ hA1 hl).mono ?_; rintro e W0 ⟨rfl, hb⟩; replace HB := HB.trans (hb.mono HB.size); replace hA1 := hA1.below hb; replace RQ1 := RQ1.below hb; replace C1 := C1.below hb; replace N1 := N1.below hb; have c12 := cell_below (B := 0) hb c11; have d12 := cell_below (B := 0) hb d11; have e12 := cell_below (B := 0) hb e11; clear hb A0 A1 A2 A3 A4 A5 A6 A7 A8 n1 n2 n3 o1 o2 o3; obtain ⟨A0, A1, A2, A3, A4, A5, A6, A7, A8⟩ := C1.c9; obtain ⟨n1, n2, n3, o1, o2, o3⟩ := N1.f3))
  refine bodyPost_ret (v := .tuple #[.agg #[.slice none 0 0, .slice none 0 0, .slice none 0 0], .int .i64 60]) (by simp [results, Tryz.results17, go_sem, *]; done) rfl ⟨_, _, _, _, _, _, _, _, _, rfl, TVP.z _ _, ?_⟩
  exact ((HB.setCell (by show w.heap.size ≤ w.heap.size + 1; omega) _).setCell (by show w.heap.size ≤ w.heap.size + 1; omega) _).setCell (by show w.heap.size ≤ w.heap.size + 1; omega) _
set_option maxHeartbeats 1000000 in
theorem Make_op (l : List Fd) (c : Ch) (m : Nat) (hm : l.length = m) (hl : m ≤ 9223372036854775807) (A : Option Addr) (cA : Nat) (hcA : m ≤ cA) (Q : Option Addr) (n qc : Nat) (hn : c.q.length = n) (hn1 : n ≤ 4398046511104) (hqc : n ≤ qc) (p0 : -9223372036854775808 ≤ c.op) (p1 : c.op ≤ 9223372036854775807) (x0 : 0 ≤ c.d.b) (x1 : c.d.b < 18446744073709551616) (w : World) (hA : Rd w A (cellsF l)) (RQ : Rd w Q (cellsI c.q)) (hr : rightF l = true) (hop : ¬ (1 ≤ c.op ∧ c.op ≤ 5)) :
    Calls Tryz.prog 17 #[.slice A m cA, .agg #[.int .i64 c.op, .string c.s, .string c.g.s, .int .i64 c.g.k, .int .i64 c.g.l, .int .i64 c.d.k, .int .u64 c.d.b, .string c.d.t, .slice Q n qc]] w fun e w' => MkP Tb.z 80 w e w' := by
  have bb1 := below_new (w := w) (.cells #[.int .i64 c.op, .string c.s, .string c.g.s, .int .i64 c.g.k, .int .i64 c.g.l, .int .i64 c.d.k, .int .u64 c.d.b, .string c.d.t, .slice Q n qc] 57)
  have bb2 := below_new (w := w.alloc (.cells #[.int .i64 c.op, .string c.s, .string c.g.s, .int .i64 c.g.k, .int .i64 c.g.l, .int .i64 c.d.k, .int .u64 c.d.b, .string c.d.t, .slice Q n qc] 57)) (.cells #[.slice none 0 0, .slice none 0 0, .slice none 0 0] 36)
  have C0 : CBox _ _ c (.slice Q n qc) 57 := (OBox.new w (chL c (.slice Q n qc)) 57).below bb2
  have N0 := OBox.new (w.alloc (.cells #[.int .i64 c.op, .string c.s, .string c.g.s, .int .i64 c.g.k, .int .i64 c.g.l, .int .i64 c.d.k, .int .u64 c.d.b, .string c.d.t, .slice Q n qc] 57)) [.slice none 0 0, .slice none 0 0, .slice none 0 0] 36
  rw [World.size_alloc] at N0
  have HB0 := below_seq bb1 bb2
  obtain ⟨V4, V6, V8, V10, V11, r4, r6, r8, r10, r11, M11, c11, d11, e11, B11⟩ := ways_made ((w.alloc (.cells #[.int .i64 c.op, .string c.s, .string c.g.s, .int .i64 c.g.k, .int .i64 c.g.l, .int .i64 c.d.k, .int .u64 c.d.b, .string c.d.t, .slice Q n qc] 57)).alloc (.cells #[.slice none 0 0, .slice none 0 0, .slice none 0 0] 36))
  have HB := below_seq HB0 B11
  have C1 := C0.below B11
  have N1 := N0.below B11
  have szV : w.heap.size + 1 < V11.heap.size := N1.lt
  have hA1 := hA.below HB
  have RQ1 := RQ.below HB
  have hmk := make_map
  obtain ⟨a0, a1, a2, a3, a4, a5, a6, a7, a8⟩ := C0.c9
  obtain ⟨A0, A1, A2, A3, A4, A5, A6, A7, A8⟩ := C1.c9
  obtain ⟨n1, n2, n3, o1, o2, o3⟩ := N1.f3
  have HM := Lib.hid hm
  have HN := Lib.hid hn
  obtain ⟨fv, is, hlk, hno⟩ := look_any M11 c.op p0 p1
  obtain ⟨rfl, rfl⟩ := hno hop
  clear hno hop
  simp only [World.size_alloc] at r4 r6 r8 r10 r11 hlk M11
  have HR := Lib.hid hr
  clear hr
  go_enter Tryz.func17, Tryz.ntmps17
  go_wp2_with (first
    | (go_at_call 35; refine (named_func _ _ _ _).mono ?_; rintro e w' ⟨rfl, rfl⟩)
    | (go_at_call 21; refine (Right_m A cA m l HM.out true HR.out _ hA1 hl).mono ?_; rintro e W0 ⟨rfl, hb⟩; replace HB := HB.trans (hb.mono HB.size); replace hA1 := hA1.below hb; replace RQ1 := RQ1.below hb; replace C1 := C1.below hb; replace N1 := N1.below hb; have c12 := cell_below (B := 0) hb c11; have d12 := cell_below (B := 0) hb d11; have e12 := cell_below (B := 0) hb e11; clear hb A0 A1 A2 A3 A4 A5 A6 A7 A8 n1 n2 n3 o1 o2 o3; obtain ⟨A0, A1, A2, A3, A4, A5, A6, A7, A8⟩ := C1.c9; obtain ⟨n1, n2, n3, o1, o2, o3⟩ := N1.f3))
  refine bodyPost_ret (v := .tuple #[.agg #[.slice none 0 0, .slice none 0 0, .slice none 0 0], .int .i64 80]) (by simp [results, Tryz.results17, go_sem, *]; done) rfl ⟨_, _, _, _, _, _, _, _, _, rfl, TVP.z _ _, ?_⟩
  exact ((HB.setCell (by show w.heap.size ≤ w.heap.size + 1; omega) _).setCell (by show w.heap.size ≤ w.heap.size + 1; omega) _).setCell (by show w.heap.size ≤ w.heap.size + 1; omega) _
end Go.Proofs.YtehcpjodkadfnaaGreat
/- Layer 8 of the heap, changes: what the program makes of any change. -/
set_option linter.unusedSimpArgs false
set_option linter.unusedVariables false
set_option maxRecDepth 100000
namespace Go.Proofs.YtehcpjodkadfnaaGreat
open Go.RowKit Go.Lib Go.Maps

theorem mk_err {l : List Fd} {c : Ch} {e : Int} (hs : stepE l c = e) (he : e ≠ 0) : makeE l c = e ∧ makeT l c = Tb.z := by
  have h1 : makeE l c = e := by rw [makeE, hs, if_neg he]
  exact ⟨h1, by rw [makeT, h1, if_neg he]⟩
theorem mk_fin {l : List Fd} {c : Ch} {r : Bool} (hs : stepE l c = 0) (h : r = rightF (newF l c)) : (bif r then (0 : Int) else 80) = makeE l c ∧ (bif r then tabC l c else Tb.z) = makeT l c := by
  subst h
  have h1 : makeE l c = if rightF (newF l c) = true then 0 else 80 := by rw [makeE, if_pos hs]
  rw [makeT, h1]
  cases rightF (newF l c) <;> simp
theorem modify_at {l : List Fd} {k : Nat} {f : Fd} (hf : l[k]? = some f) (g : Fd → Fd) : l.modify k g = l.set k (g f) := by
  apply List.ext_getElem?
  intro i
  rw [List.getElem?_modify, List.getElem?_set]
  by_cases h : k = i
  · subst h
    obtain ⟨hk, he⟩ := List.getElem?_eq_some_iff.1 hf
    simp [hk, he]
  · simp [h]
theorem Make_m (l : List Fd) (c : Ch) (m : Nat) (hm : l.length = m) (hl : m ≤ 9223372036854775807) (A : Option Addr) (cA : Nat) (hcA : m ≤ cA) (Q : Option Addr) (n qc : Nat) (hn : c.q.length = n) (hn1 : n ≤ 4398046511104) (hqc : n ≤ qc) (p0 : -9223372036854775808 ≤ c.op) (p1 : c.op ≤ 9223372036854775807) (x0 : 0 ≤ c.d.b) (x1 : c.d.b < 18446744073709551616) (w : World) (hA : Rd w A (cellsF l)) (RQ : Rd w Q (cellsI c.q)) :
    Calls Tryz.prog 17 #[.slice A m cA, .agg #[.int .i64 c.op, .string c.s, .string c.g.s, .int .i64 c.g.k, .int .i64 c.g.l, .int .i64 c.d.k, .int .u64 c.d.b, .string c.d.t, .slice Q n qc]] w fun e w' => MkP (makeT l c) (makeE l c) w e w' := by
  cases hr : rightF l
  · obtain ⟨e1, e2⟩ := mk_err (l := l) (c := c) (e := 60) (by simp [stepE, hr]) (by decide)
    rw [e1, e2]
    exact Make_form l c m hm hl A cA hcA Q n qc hn hn1 hqc p0 p1 x0 x1 w hA RQ hr
  by_cases hop : 1 ≤ c.op ∧ c.op ≤ 5
  · rcases (by omega : c.op = 1 ∨ c.op = 2 ∨ c.op = 3 ∨ c.op = 4 ∨ c.op = 5) with e | e | e | e | e
    · cases hv : rightB c.d.k c.d.b c.d.t c.g.k c.g.l
      · obtain ⟨e1, e2⟩ := mk_err (l := l) (c := c) (e := 80) (by simp [stepE, hr, e, okVal, hv]) (by decide)
        rw [e1, e2]
        exact Make_adds_no l c m hm hl A cA hcA Q n qc hn hn1 hqc p0 p1 x0 x1 w hA RQ e hr hv
      · have hT : tabC l c = ⟨l, l ++ [c.g], kM m ++ [⟨-1, c.d⟩]⟩ := by simp [tabC, newF, newM, e, hm]
        have hR := tabC_right hr hop (by omega) (by omega) (by omega)
        have hm1 := Make_adds_yes l c m hm hl A cA hcA Q n qc hn hn1 hqc p0 p1 x0 x1 w hA RQ e hr hv _ rfl
        rw [← hT] at hm1
        cases hok : okVal c
        · obtain ⟨e1, e2⟩ := mk_err (l := l) (c := c) (e := 80) (by simp [stepE, hr, e, hok]) (by decide)
          rw [e1, e2]
          rw [hok, e] at hR
          simp at hR
          rw [hR] at hm1
          exact hm1
        · rw [hok] at hR
          simp at hR
          obtain ⟨e1, e2⟩ := mk_fin (l := l) (c := c) (by simp [stepE, hr, e, hok]) hR
          rw [← e1, ← e2]
          exact hm1
    · by_cases hz : findZ l c.s < 0
      · obtain ⟨e1, e2⟩ := mk_err (l := l) (c := c) (e := 61) (by simp [stepE, hr, e, hz]) (by decide)
        rw [e1, e2]
        exact Make_none2 l c m hm hl A cA hcA Q n qc hn hn1 hqc p0 p1 x0 x1 w hA RQ e hr hz
      · have hk : findZ l c.s = (atC l c : Nat) := by unfold atC; omega
        have hT : tabC l c = ⟨l, l.eraseIdx (atC l c), (kM m).eraseIdx (atC l c)⟩ := by simp [tabC, newF, newM, e, hm]
        have hR := tabC_right hr hop (by omega) (by omega) (by omega)
        have hm1 := Make_drops l c m hm hl A cA hcA Q n qc hn hn1 hqc p0 p1 x0 x1 w hA RQ e hr _ hk _ rfl
        rw [← hT] at hm1
        simp [e] at hR
        obtain ⟨e1, e2⟩ := mk_fin (l := l) (c := c) (by simp [stepE, hr, e, hz]) hR
        rw [← e1, ← e2]
        exact hm1
    · by_cases hz : findZ l c.s < 0
      · obtain ⟨e1, e2⟩ := mk_err (l := l) (c := c) (e := 61) (by simp [stepE, hr, e, hz]) (by decide)
        rw [e1, e2]
        exact Make_none3 l c m hm hl A cA hcA Q n qc hn hn1 hqc p0 p1 x0 x1 w hA RQ e hr hz
      · have hk : findZ l c.s = (atC l c : Nat) := by unfold atC; omega
        obtain ⟨f, hf⟩ : ∃ f, l[atC l c]? = some f := ⟨_, List.getElem?_eq_getElem (atC_lt hz)⟩
        have hT : tabC l c = ⟨l, l.set (atC l c) ⟨c.g.s, f.k, f.l⟩, kM m⟩ := by simp [tabC, newF, newM, e, hm, modify_at hf]
        have hR := tabC_right hr hop (by omega) (by omega) (by omega)
        have hm1 := Make_renames l c m hm hl A cA hcA Q n qc hn hn1 hqc p0 p1 x0 x1 w hA RQ e hr _ hk f hf _ rfl
        rw [← hT] at hm1
        simp [e] at hR
        obtain ⟨e1, e2⟩ := mk_fin (l := l) (c := c) (by simp [stepE, hr, e, hz]) hR
        rw [← e1, ← e2]
        exact hm1
    · by_cases hz : findZ l c.s < 0
      · obtain ⟨e1, e2⟩ := mk_err (l := l) (c := c) (e := 61) (by simp [stepE, hr, e, hz]) (by decide)
        rw [e1, e2]
        exact Make_none4 l c m hm hl A cA hcA Q n qc hn hn1 hqc p0 p1 x0 x1 w hA RQ e hr hz
      · have hk : findZ l c.s = (atC l c : Nat) := by unfold atC; omega
        obtain ⟨f, hf⟩ : ∃ f, l[atC l c]? = some f := ⟨_, List.getElem?_eq_getElem (atC_lt hz)⟩
        have hca : castsAt l c = castsB f.k f.l c.g.k c.g.l := by simp [castsAt, hf]
        cases hv : castsB f.k f.l c.g.k c.g.l
        · obtain ⟨e1, e2⟩ := mk_err (l := l) (c := c) (e := 80) (by simp [stepE, hr, e, hz, hca, hv]) (by decide)
          rw [e1, e2]
          exact Make_recasts_no l c m hm hl A cA hcA Q n qc hn hn1 hqc p0 p1 x0 x1 w hA RQ e hr _ hk f hf hv
        · have hT : tabC l c = ⟨l, l.set (atC l c) ⟨f.s, c.g.k, c.g.l⟩, kM m⟩ := by simp [tabC, newF, newM, e, hm, modify_at hf]
          have hR := tabC_right hr hop (by omega) (fun _ => by rw [hca, hv]) (by omega)
          have hm1 := Make_recasts_yes l c m hm hl A cA hcA Q n qc hn hn1 hqc p0 p1 x0 x1 w hA RQ e hr _ hk f hf hv _ rfl
          rw [← hT] at hm1
          simp [e] at hR
          obtain ⟨e1, e2⟩ := mk_fin (l := l) (c := c) (by simp [stepE, hr, e, hz, hca, hv]) hR
          rw [← e1, ← e2]
          exact hm1
    · cases hv : permB c.q m
      · obtain ⟨e1, e2⟩ := mk_err (l := l) (c := c) (e := 80) (by simp [stepE, hr, e, hm, hv]) (by decide)
        rw [e1, e2]
        exact Make_orders_no l c m hm hl A cA hcA Q n qc hn hn1 hqc p0 p1 x0 x1 w hA RQ e hr hv
      · have hT : tabC l c = ⟨l, c.q.map fun x => (l[x.toNat]?).getD Fd.z, c.q.map fun x => ⟨x, Vl.z⟩⟩ := by simp [tabC, newF, newM, e]
        have hR := tabC_right hr hop (by omega) (by omega) (fun _ => by rw [hm, hv])
        have hm1 := Make_orders_yes l c m hm hl A cA hcA Q n qc hn hn1 hqc p0 p1 x0 x1 w hA RQ e hr hv _ rfl
        rw [← hT] at hm1
        simp [e] at hR
        obtain ⟨e1, e2⟩ := mk_fin (l := l) (c := c) (by simp [stepE, hr, e, hm, hv]) hR
        rw [← e1, ← e2]
        exact hm1
  · obtain ⟨e1, e2⟩ := mk_err (l := l) (c := c) (e := 80) (by simp [stepE, hr, hop]) (by decide)
    rw [e1, e2]
    exact Make_op l c m hm hl A cA hcA Q n qc hn hn1 hqc p0 p1 x0 x1 w hA RQ hr hop
end Go.Proofs.YtehcpjodkadfnaaGreat
/- Layer 8 of the heap, changes: whether numbers are all from 0 on, as the document asks it. -/
set_option linter.unusedSimpArgs false
set_option linter.unusedVariables false
set_option maxRecDepth 100000
namespace Go.Proofs.YtehcpjodkadfnaaGreat
open Go.RowKit Go.Lib

theorem rng_count (m : Nat) (k : Nat) : (rng m).count (k : Int) = if k < m then 1 else 0 := by
  induction m with
  | zero => simp [rng]
  | succ m ih =>
    rw [rng_succ, List.count_append, ih]
    by_cases h : k = m
    · subst h; simp
    · have : ¬ ((m : Int) = (k : Int)) := by omega
      rw [List.count_singleton]
      simp [this]
      split <;> split <;> omega
theorem perm_count {q : List Int} {m : Nat} : permB q m = (decide (∀ k : Nat, k < m → q.count (k : Int) = 1) && decide (q.length = m)) := by
  rw [Bool.eq_iff_iff, Bool.and_eq_true, decide_eq_true_eq, decide_eq_true_eq]
  constructor
  · intro h
    refine ⟨fun k hk => ?_, perm_len h⟩
    rw [(of_decide_eq_true h).count_eq, rng_count, if_pos hk]
  · rintro ⟨h, hl⟩
    exact decide_eq_true (perm_of_all m q hl fun k hk => List.count_pos_iff.1 (by rw [h k hk]; omega))
theorem count_step {q : List Int} {j : Nat} {x : Int} (hx : q[j]? = some x) (k : Int) : (q.take (j + 1)).count k = (q.take j).count k + (if x = k then 1 else 0) := by
  rw [List.take_add_one, hx, List.count_append]
  simp [List.count_singleton]
end Go.Proofs.YtehcpjodkadfnaaGreat
/- A table that grows: its fields and its moves are rows of the call's own. -/
set_option linter.unusedSimpArgs false
set_option linter.unusedVariables false
set_option maxRecDepth 100000
namespace Go.Proofs.YtehcpjodkadfnaaGreat
open Go.RowKit Go.Lib

/-- a box of a table whose fields and moves are rows of the call's own, in different blocks -/
structure TO (w W : World) (base ob : Nat) (xO vF vM : Value) (fs : List Fd) (ms : List Mv) (T TM : TypeId) : Prop where
  O : OBox W ob [xO, vF, vM] T
  F : W.ownsRow base 29 3 vF fs.length (cellsF fs)
  M : W.ownsRow base TM 4 vM ms.length (cellsM ms)
  ap : ∀ g, vF.ownBlock = some g → vM.ownBlock ≠ some g
  lo : ob < base
  B : Below w.heap.size w W
  hob : w.heap.size ≤ ob
theorem TO.below {w W W' : World} {base ob : Nat} {xO vF vM : Value} {fs : List Fd} {ms : List Mv} {T TM : TypeId} (h : TO w W base ob xO vF vM fs ms T TM) (hb : Below W.heap.size W W') : TO w W' base ob xO vF vM fs ms T TM :=
  ⟨h.O.below hb, own_below h.F hb, own_below h.M hb, h.ap, h.lo, h.B.trans (hb.mono h.B.size), h.hob⟩
/-- a store into a box that is none of the table's -/
theorem TO.store {w W : World} {base ob : Nat} {xO vF vM : Value} {fs : List Fd} {ms : List Mv} {T TM : TypeId} (h : TO w W base ob xO vF vM fs ms T TM) {b : Nat} (j : Nat) (v : Value) (hb : w.heap.size ≤ b) (hne : b ≠ ob) (hF : vF.ownBlock ≠ some b) (hM : vM.ownBlock ≠ some b) : TO w (W.setCell ⟨b, j, none⟩ v) base ob xO vF vM fs ms T TM :=
  ⟨(Below.heap_setCell _ _ _ _ (by show ob ≠ b; omega)).trans h.O, own_keep h.F (fun g hg => Below.heap_setCell _ _ _ _ (by rintro rfl; exact hF hg)), own_keep h.M (fun g hg => Below.heap_setCell _ _ _ _ (by rintro rfl; exact hM hg)), h.ap, h.lo, h.B.setCell hb v, h.hob⟩
theorem TO.ltF {w W : World} {base ob : Nat} {xO vF vM : Value} {fs : List Fd} {ms : List Mv} {T TM : TypeId} (h : TO w W base ob xO vF vM fs ms T TM) : ∀ g, vF.ownBlock = some g → base ≤ g ∧ g < W.heap.size := fun g hg => ⟨own_base h.F g hg, own_lt h.F g hg⟩
theorem TO.ltM {w W : World} {base ob : Nat} {xO vF vM : Value} {fs : List Fd} {ms : List Mv} {T TM : TypeId} (h : TO w W base ob xO vF vM fs ms T TM) : ∀ g, vM.ownBlock = some g → base ≤ g ∧ g < W.heap.size := fun g hg => ⟨own_base h.M g hg, own_lt h.M g hg⟩
theorem TO.lt {w W : World} {base ob : Nat} {xO vF vM : Value} {fs : List Fd} {ms : List Mv} {T TM : TypeId} (h : TO w W base ob xO vF vM fs ms T TM) : ob < W.heap.size := h.O.lt
/-- one more field -/
theorem TO.addF {w U U1 W5 : World} {base ob : Nat} {xO vF vM v' : Value} {fs : List Fd} {ms : List Mv} {T TM : TypeId} (h : TO w U base ob xO vF vM fs ms T TM) (nf : Below U.heap.size U U1) (g : Fd) (gr : U1.grownBy W5 vF.ownBlock) (hb : base ≤ U.heap.size)
    (own' : W5.ownsRow base 29 3 v' (fs.length + 1) (cellsF fs ++ [.string g.s, .int .i64 g.k, .int .i64 g.l])) (hat : v'.ownBlock = vF.ownBlock ∨ v'.ownBlock = some U1.heap.size) :
    OBox W5 ob [xO, vF, vM] T ∧ TO w (W5.setCell ⟨ob, 1, none⟩ v') base ob xO v' vM (fs ++ [g]) ms T TM ∧ ∀ b, b < base → b ≠ ob → (W5.setCell ⟨ob, 1, none⟩ v').heap[b]? = U.heap[b]? := by
  have z1 := nf.size
  have z2 := gr.size
  have lo := h.lo
  have ltF := h.ltF
  have ltM := h.ltM
  have O1 := (h.O.below nf).grown gr (by intro e; have := (ltF _ e.symm).1; omega)
  have bl : ∀ b, b < base → b ≠ ob → (W5.setCell ⟨ob, 1, none⟩ v').heap[b]? = U.heap[b]? := fun b hb1 hb2 =>
    (Below.heap_setCell _ _ _ _ (by show b ≠ ob; exact hb2)).trans ((gr.block b (by omega) (by intro e; have := (ltF _ e.symm).1; omega)).trans (nf.block b (by omega)))
  refine ⟨O1, ⟨obox_set O1 1 v', ?_, ?_, ?_, lo, ?_, h.hob⟩, bl⟩
  · refine own_eq (own_keep own' (fun k hk => Below.heap_setCell _ _ _ _ (by have := own_base own' k hk; show k ≠ ob; omega))) (by simp) (by rw [cellsF_append]; rfl)
  · exact own_keep (own_grown (own_below h.M nf) gr (fun k hk e => h.ap k e.symm hk)) (fun k hk => Below.heap_setCell _ _ _ _ (by have := (ltM k hk).1; show k ≠ ob; omega))
  · intro k hk hm
    rcases hat with e | e
    · exact h.ap k (by rw [← e]; exact hk) hm
    · rw [hk] at e; have e := Option.some.inj e; have := (ltM k hm).2; omega
  · exact ((h.B.trans (nf.mono h.B.size)).grown gr (by have := h.B.size; omega) (fun k hk => by have := (ltF k hk).1; have := h.hob; omega)).setCell h.hob v'
/-- one more move -/
theorem TO.addM {w U U1 W5 : World} {base ob : Nat} {xO vF vM v' : Value} {fs : List Fd} {ms : List Mv} {T TM : TypeId} (h : TO w U base ob xO vF vM fs ms T TM) (nf : Below U.heap.size U U1) (m : Mv) (gr : U1.grownBy W5 vM.ownBlock) (hb : base ≤ U.heap.size)
    (own' : W5.ownsRow base TM 4 v' (ms.length + 1) (cellsM ms ++ [.int .i64 m.f, .int .i64 m.d.k, .int .u64 m.d.b, .string m.d.t])) (hat : v'.ownBlock = vM.ownBlock ∨ v'.ownBlock = some U1.heap.size) :
    OBox W5 ob [xO, vF, vM] T ∧ TO w (W5.setCell ⟨ob, 2, none⟩ v') base ob xO vF v' fs (ms ++ [m]) T TM ∧ ∀ b, b < base → b ≠ ob → (W5.setCell ⟨ob, 2, none⟩ v').heap[b]? = U.heap[b]? := by
  have z1 := nf.size
  have z2 := gr.size
  have lo := h.lo
  have ltF := h.ltF
  have ltM := h.ltM
  have O1 := (h.O.below nf).grown gr (by intro e; have := (ltM _ e.symm).1; omega)
  have bl : ∀ b, b < base → b ≠ ob → (W5.setCell ⟨ob, 2, none⟩ v').heap[b]? = U.heap[b]? := fun b hb1 hb2 =>
    (Below.heap_setCell _ _ _ _ (by show b ≠ ob; exact hb2)).trans ((gr.block b (by omega) (by intro e; have := (ltM _ e.symm).1; omega)).trans (nf.block b (by omega)))
  refine ⟨O1, ⟨obox_set O1 2 v', ?_, ?_, ?_, lo, ?_, h.hob⟩, bl⟩
  · exact own_keep (own_grown (own_below h.F nf) gr (fun k hk e => h.ap k hk e.symm)) (fun k hk => Below.heap_setCell _ _ _ _ (by have := (ltF k hk).1; show k ≠ ob; omega))
  · refine own_eq (own_keep own' (fun k hk => Below.heap_setCell _ _ _ _ (by have := own_base own' k hk; show k ≠ ob; omega))) (by simp) (by rw [cellsM_append]; rfl)
  · intro k hk hm
    rcases hat with e | e
    · exact h.ap k hk (by rw [← e]; exact hm)
    · rw [hm] at e; have e := Option.some.inj e; have := (ltF k hk).2; omega
  · exact ((h.B.trans (nf.mono h.B.size)).grown gr (by have := h.B.size; omega) (fun k hk => by have := (ltM k hk).1; have := h.hob; omega)).setCell h.hob v'
/-- what the document's functions hand back: a table, and an error -/
def RkP (t : Tb) (code : Int) (w : World) (e : Ending) (w' : World) : Prop :=
  ∃ X0 y0 z0 X1 y1 z1 X2 y2 z2, e = .returned (.tuple #[.agg #[.slice X0 y0 z0, .slice X1 y1 z1, .slice X2 y2 z2], .int .i64 code]) ∧ TVP (fun _ => True) w' (.agg #[.slice X0 y0 z0, .slice X1 y1 z1, .slice X2 y2 z2]) t ∧ Below w.heap.size w w'
end Go.Proofs.YtehcpjodkadfnaaGreat
/- Layer 8 of the heap, changes: what the document makes of a change, where it cannot be. -/
set_option linter.unusedSimpArgs false
set_option linter.unusedVariables false
set_option maxRecDepth 100000
namespace Go.Proofs.YtehcpjodkadfnaaGreat
open Go.RowKit Go.Lib

end Go.Proofs.YtehcpjodkadfnaaGreat
/- Layer 8 of the heap, changes: what the document makes of a change, one more field. -/
set_option linter.unusedSimpArgs false
set_option linter.unusedVariables false
set_option maxRecDepth 100000
namespace Go.Proofs.YtehcpjodkadfnaaGreat
open Go.RowKit Go.Lib

theorem own_TVr {w : World} {P : Nat → Prop} {A : Option Addr} {m c n k b b' : Nat} {v2 v3 : Value} {t : Tb} {TM : TypeId} (hm : t.o.length = m) (R : Rd w A (cellsF t.o)) (hp : ∀ ad, A = some ad → P ad.block) (o2 : w.ownsRow b 29 3 v2 n (cellsF t.n)) (hn : t.n.length = n) (p2 : ∀ g, v2.ownBlock = some g → P g)
    (o3 : w.ownsRow b' TM 4 v3 k (cellsM t.m)) (hk : t.m.length = k) (p3 : ∀ g, v3.ownBlock = some g → P g) : TVP P w (.agg #[.slice A m c, v2, v3]) t := by
  subst hm hn hk
  obtain ⟨B, d, rfl, hd, _, _⟩ := own_rd o2
  obtain ⟨C, e, rfl, _, _, _⟩ := own_rd o3
  exact ⟨A, c, B, d, C, e, rfl, hd, RdP.mk R hp, own_P o2 p2, own_P o3 p3⟩
theorem own_slice {w : World} {base n m : Nat} {e : TypeId} {size c : Nat} {A : Option Addr} {xs : List Value} (h : w.ownsRow base e size (.slice A n c) m xs) : n = m ∧ Rd w A xs := by
  obtain ⟨A', c', e1, _, _, hr⟩ := own_rd h
  cases e1
  exact ⟨rfl, hr⟩
theorem erase_snoc {α : Type} (xs : List α) (x : α) (k : Nat) : (xs ++ [x]).eraseIdx k = if xs.length = k then xs.eraseIdx k else xs.eraseIdx k ++ [x] := by
  split
  · rename_i h
    subst h
    rw [List.eraseIdx_append_of_length_le (Nat.le_refl _), List.eraseIdx_of_length_le (Nat.le_refl _)]
    simp
  · rename_i h
    by_cases hlt : k < xs.length
    · rw [List.eraseIdx_append_of_lt_length hlt]
    · rw [List.eraseIdx_append_of_length_le (by omega), List.eraseIdx_of_length_le (l := xs) (by omega), List.eraseIdx_of_length_le (by simp; omega)]
theorem modify_snoc {α : Type} (xs : List α) (x : α) (k : Nat) (f : α → α) : (xs ++ [x]).modify k f = xs.modify k f ++ [if xs.length = k then f x else x] := by
  apply List.ext_getElem?
  intro i
  rw [List.getElem?_modify]
  by_cases h1 : i < xs.length
  · rw [List.getElem?_append_left h1, List.getElem?_append_left (by rw [List.length_modify]; exact h1), List.getElem?_modify]
  · rw [List.getElem?_append_right (by omega), List.getElem?_append_right (by rw [List.length_modify]; omega), List.length_modify]
    by_cases h2 : i = xs.length
    · subst h2
      by_cases h3 : k = xs.length
      · simp [h3]
      · simp [h3, Ne.symm h3]
    · rw [List.getElem?_eq_none (by simp; omega), List.getElem?_eq_none (by simp; omega)]; rfl
theorem FdS_modify {l : List Fd} {k : Nat} {g : Fd → Fd} (sl : FdS l) (hg : ∀ f ∈ l, (g f).s.size ≤ 9223372036854775807) : FdS (l.modify k g) := by
  intro x hx
  obtain ⟨i, hi⟩ := List.getElem?_of_mem hx
  rw [List.getElem?_modify] at hi
  cases hf : l[i]? with
  | none => rw [hf] at hi; simp at hi
  | some f =>
    rw [hf] at hi
    by_cases h : k = i
    · simp [h] at hi; rw [← hi]; exact hg f (List.mem_of_getElem? hf)
    · simp [h] at hi; rw [← hi]; exact sl f (List.mem_of_getElem? hf)
end Go.Proofs.YtehcpjodkadfnaaGreat
/- Layer 8 of the heap, changes: what the document makes of a change, one field less. -/
set_option linter.unusedSimpArgs false
set_option linter.unusedVariables false
set_option maxRecDepth 100000
namespace Go.Proofs.YtehcpjodkadfnaaGreat
open Go.RowKit Go.Lib

end Go.Proofs.YtehcpjodkadfnaaGreat
/- Layer 8 of the heap, changes: what the document makes of a change, another name. -/
set_option linter.unusedSimpArgs false
set_option linter.unusedVariables false
set_option maxRecDepth 100000
namespace Go.Proofs.YtehcpjodkadfnaaGreat
open Go.RowKit Go.Lib

end Go.Proofs.YtehcpjodkadfnaaGreat
/- Layer 8 of the heap, changes: what the document makes of a change, another kind. -/
set_option linter.unusedSimpArgs false
set_option linter.unusedVariables false
set_option maxRecDepth 100000
namespace Go.Proofs.YtehcpjodkadfnaaGreat
open Go.RowKit Go.Lib

end Go.Proofs.YtehcpjodkadfnaaGreat
