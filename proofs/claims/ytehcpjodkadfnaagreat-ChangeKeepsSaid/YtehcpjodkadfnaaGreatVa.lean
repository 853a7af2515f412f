/- Merged out of: Qf. -/
import Derived.Test.YtehcpjodkadfnaaGreatUz
import Derived.Deep.RegionHeld3
/- Layer 7 of the heap, tables: two tables, one behind the other: what both ways share, and where the program hands back none. -/
set_option linter.unusedSimpArgs false
set_option linter.unusedVariables false
set_option maxRecDepth 100000
namespace Go.Proofs.YtehcpjodkadfnaaGreat
open Go.RowKit Go.Lib

/-- two tables in boxes, and a third box -/
structure CoS (w W : World) (T : TypeId) (P Q N : List Value) : Prop where
  B : Below w.heap.size w W
  P : OBox W w.heap.size P T
  Q : OBox W (w.heap.size + 1) Q T
  N : OBox W (w.heap.size + 2) N T
theorem CoS.below {w W W' : World} {T : TypeId} {P Q N : List Value} (h : CoS w W T P Q N) (hb : Below W.heap.size W W') : CoS w W' T P Q N :=
  ⟨below_seq h.B hb, h.P.below hb, h.Q.below hb, h.N.below hb⟩
theorem CoS.new (w : World) (T : TypeId) (P Q N : List Value) : CoS w (((w.alloc (.cells P.toArray T)).alloc (.cells Q.toArray T)).alloc (.cells N.toArray T)) T P Q N := by
  refine ⟨below_seq (below_new _) (below_seq (below_new _) (below_new _)), ((OBox.new w P T).below (below_new _)).below (below_new _), ?_, ?_⟩
  · have := (OBox.new (w.alloc (.cells P.toArray T)) Q T).below (below_new (.cells N.toArray T))
    rw [World.size_alloc] at this; exact this
  · have := OBox.new ((w.alloc (.cells P.toArray T)).alloc (.cells Q.toArray T)) N T
    rw [World.size_alloc, World.size_alloc] at this; exact this
theorem CoS.two {w W0 W : World} {T : TypeId} {x0 x1 x2 y0 y1 y2 : Value} {N : List Value} (h : CoS w W0 T [x0, x1, x2] [y0, y1, y2] N) (hb : Below W0.heap.size W0 W) :
    W.cell? ⟨w.heap.size, 0, none⟩ = some x0 ∧ W.cell? ⟨w.heap.size + 1, 1, none⟩ = some y1 ∧ Below W0.heap.size W0 W := ⟨(h.below hb).P.f3.1, (h.below hb).Q.f3.2.1, hb⟩
theorem RdP.up {P : Nat → Prop} {w w' : World} {A : Option Addr} {cs : List Value} (h : RdP P w A cs) (hb : Below w.heap.size w w') : RdP P w' A cs :=
  (h.lt.keep (fun g hg => hb.block g hg.2)).mono fun g hg => hg.1
theorem RdP.set3 {P : Nat → Prop} {w : World} {A : Option Addr} {cs : List Value} (h : RdP P w A cs) (p : Nat) (hp : ∀ g, P g → g ≠ p) (i j k : Nat) (x y z : Value) : RdP P (((w.setCell ⟨p, i, none⟩ x).setCell ⟨p, j, none⟩ y).setCell ⟨p, k, none⟩ z) A cs :=
  h.keep (fun g hg => (Below.heap_setCell _ _ _ _ (hp g hg)).trans ((Below.heap_setCell _ _ _ _ (hp g hg)).trans (Below.heap_setCell _ _ _ _ (hp g hg))))
theorem own_PL {w : World} {base n c : Nat} {e : TypeId} {K : Nat} {A : Option Addr} {xs : List Value} (h : w.ownsRow base e K (.slice A n c) n xs) : RdP (fun g => base ≤ g ∧ g < w.heap.size) w A xs :=
  own_P h fun g hg => ⟨own_base h g hg, own_lt h g hg⟩
theorem rightT_16 {t : Tb} (h : rightT t = true) : t.o.length ≤ 16 ∧ t.n.length ≤ 16 ∧ t.m.length ≤ 16 := by
  obtain ⟨h1, h2, h3, -⟩ := rightT_iff.1 h
  have a := (rightF_may h1).2
  have b := (rightF_may h2).2
  omega
/-- what is handed back -/
def CoP (t : Tb) (code : Int) (w : World) (e : Ending) (w' : World) : Prop :=
  ∃ X0 z0 X1 z1 X2 z2, e = .returned (.tuple #[.agg #[.slice X0 t.o.length z0, .slice X1 t.n.length z1, .slice X2 t.m.length z2], .int .i64 code]) ∧ t.o.length ≤ z0 ∧ t.n.length ≤ z1 ∧ Rd w' X0 (cellsF t.o) ∧ Rd w' X1 (cellsF t.n) ∧ Rd w' X2 (cellsM t.m) ∧ Below w.heap.size w w'
theorem meet_no {a b : Tb} (h : meetB a b = false) : composeE a b = 70 ∧ composeT a b = Tb.z := by
  have e : composeE a b = 70 := by rw [composeE, if_neg (by rw [h]; rintro ⟨h, _⟩; cases h)]
  exact ⟨e, by rw [composeT, if_neg (by rw [e]; decide)]⟩
set_option maxHeartbeats 4000000 in
theorem Compose_no (a b : Tb) (X0 X1 X2 Z0 Z1 Z2 : Option Addr) (x0 x1 x2 z0 z1 z2 ao an am bo bn bm : Nat) (hao : a.o.length = ao) (han : a.n.length = an) (ham : a.m.length = am) (hbo : b.o.length = bo) (hbn : b.n.length = bn) (hbm : b.m.length = bm) (l0 : ao ≤ 9223372036854775807) (l1 : an ≤ 9223372036854775807) (l2 : am ≤ 9223372036854775807) (l3 : bo ≤ 9223372036854775807) (l4 : bn ≤ 9223372036854775807) (l5 : bm ≤ 9223372036854775807) (wa : MvW a.m) (wb : MvW b.m) (w : World) (r0 : Rd w X0 (cellsF a.o)) (r1 : Rd w X1 (cellsF a.n)) (r2 : Rd w X2 (cellsM a.m)) (s0 : Rd w Z0 (cellsF b.o)) (s1 : Rd w Z1 (cellsF b.n)) (s2 : Rd w Z2 (cellsM b.m)) (hmeet : meetB a b = false) :
    Calls Tryz.prog 23 #[.agg #[.slice X0 ao x0, .slice X1 an x1, .slice X2 am x2], .agg #[.slice Z0 bo z0, .slice Z1 bn z1, .slice Z2 bm z2]] w fun e w' => CoP Tb.z 70 w e w' := by
  obtain ⟨q1, hq1⟩ : ∃ r, rightT a = r := ⟨_, rfl⟩
  obtain ⟨q2, hq2⟩ : ∃ r, rightT b = r := ⟨_, rfl⟩
  obtain ⟨q3, hq3⟩ : ∃ r, sameFB a.n b.o = r := ⟨_, rfl⟩
  rw [meetB, hq1, hq2, hq3] at hmeet
  have S : CoS w _ 36 [.slice X0 ao x0, .slice X1 an x1, .slice X2 am x2] [.slice Z0 bo z0, .slice Z1 bn z1, .slice Z2 bm z2] [.slice none 0 0, .slice none 0 0, .slice none 0 0] := CoS.new w _ _ _ _
  obtain ⟨P0, P1, P2, P3, P4, P5⟩ := S.P.f3
  obtain ⟨Q0, Q1, Q2, Q3, Q4, Q5⟩ := S.Q.f3
  obtain ⟨N0, N1, N2, N3, N4, N5⟩ := S.N.f3
  have HAO := Lib.hid hao; have HAN := Lib.hid han; have HAM := Lib.hid ham
  have HBO := Lib.hid hbo; have HBN := Lib.hid hbn; have HBM := Lib.hid hbm
  have HR1 := Lib.hid hq1; have HR2 := Lib.hid hq2; have HR3 := Lib.hid hq3
  have WA := Lib.hid wa; have WB := Lib.hid wb
  have tok1 := True.intro
  clear hao han ham hbo hbn hbm hq1 hq2 hq3 wa wb
  cases q1
  · clear hmeet
    go_enter Tryz.func23, Tryz.ntmps23
    go_wp2_with (first | (have _t := tok1; go_at_call 24; refine (TRight_m a X0 X1 X2 x0 x1 x2 ao an am HAO.out HAN.out HAM.out l0 l1 l2 WA.out _ (r0.below S.B) (r1.below S.B) (r2.below S.B)).mono ?_; rintro e W1 ⟨rfl, hb⟩; rw [HR1.out]; replace S := S.below hb; clear P0 P1 P2 P3 P4 P5 Q0 Q1 Q2 Q3 Q4 Q5 N0 N1 N2 N3 N4 N5; obtain ⟨P0, P1, P2, P3, P4, P5⟩ := S.P.f3; obtain ⟨Q0, Q1, Q2, Q3, Q4, Q5⟩ := S.Q.f3; obtain ⟨N0, N1, N2, N3, N4, N5⟩ := S.N.f3; clear hb tok1; have tok2 := True.intro))
    refine bodyPost_ret (v := .tuple #[.agg #[.slice none 0 0, .slice none 0 0, .slice none 0 0], .int .i64 70]) (by simp [results, Tryz.results23, go_sem, *]; done) rfl ⟨none, 0, none, 0, none, 0, rfl, Nat.le_refl _, Nat.le_refl _, fun h => absurd rfl h, fun h => absurd rfl h, fun h => absurd rfl h, ?_⟩
    have HB := S.B
    (repeat (first | exact HB | refine Below.setCell ?_ (by dsimp only; omega) _ | refine Below.alloc ?_ (by have hs_ := HB.size; first | (simp; done) | (simp; omega) | omega) _ | apply Below.drew))
  cases q2
  · clear hmeet
    go_enter Tryz.func23, Tryz.ntmps23
    go_wp2_with (first | (have _t := tok1; go_at_call 24; refine (TRight_m a X0 X1 X2 x0 x1 x2 ao an am HAO.out HAN.out HAM.out l0 l1 l2 WA.out _ (r0.below S.B) (r1.below S.B) (r2.below S.B)).mono ?_; rintro e W1 ⟨rfl, hb⟩; rw [HR1.out]; replace S := S.below hb; clear P0 P1 P2 P3 P4 P5 Q0 Q1 Q2 Q3 Q4 Q5 N0 N1 N2 N3 N4 N5; obtain ⟨P0, P1, P2, P3, P4, P5⟩ := S.P.f3; obtain ⟨Q0, Q1, Q2, Q3, Q4, Q5⟩ := S.Q.f3; obtain ⟨N0, N1, N2, N3, N4, N5⟩ := S.N.f3; clear hb tok1; have tok2 := True.intro) | (have _t := tok2; go_at_call 24; refine (TRight_m b Z0 Z1 Z2 z0 z1 z2 bo bn bm HBO.out HBN.out HBM.out l3 l4 l5 WB.out _ (s0.below S.B) (s1.below S.B) (s2.below S.B)).mono ?_; rintro e W2 ⟨rfl, hb⟩; rw [HR2.out]; replace S := S.below hb; clear P0 P1 P2 P3 P4 P5 Q0 Q1 Q2 Q3 Q4 Q5 N0 N1 N2 N3 N4 N5; obtain ⟨P0, P1, P2, P3, P4, P5⟩ := S.P.f3; obtain ⟨Q0, Q1, Q2, Q3, Q4, Q5⟩ := S.Q.f3; obtain ⟨N0, N1, N2, N3, N4, N5⟩ := S.N.f3; clear hb tok2))
    refine bodyPost_ret (v := .tuple #[.agg #[.slice none 0 0, .slice none 0 0, .slice none 0 0], .int .i64 70]) (by simp [results, Tryz.results23, go_sem, *]; done) rfl ⟨none, 0, none, 0, none, 0, rfl, Nat.le_refl _, Nat.le_refl _, fun h => absurd rfl h, fun h => absurd rfl h, fun h => absurd rfl h, ?_⟩
    have HB := S.B
    (repeat (first | exact HB | refine Below.setCell ?_ (by dsimp only; omega) _ | refine Below.alloc ?_ (by have hs_ := HB.size; first | (simp; done) | (simp; omega) | omega) _ | apply Below.drew))
  obtain rfl : q3 = false := by simpa using hmeet
  clear hmeet
  go_enter Tryz.func23, Tryz.ntmps23
  go_wp2_with (first | (have _t := tok1; go_at_call 24; refine (TRight_m a X0 X1 X2 x0 x1 x2 ao an am HAO.out HAN.out HAM.out l0 l1 l2 WA.out _ (r0.below S.B) (r1.below S.B) (r2.below S.B)).mono ?_; rintro e W1 ⟨rfl, hb⟩; rw [HR1.out]; replace S := S.below hb; clear P0 P1 P2 P3 P4 P5 Q0 Q1 Q2 Q3 Q4 Q5 N0 N1 N2 N3 N4 N5; obtain ⟨P0, P1, P2, P3, P4, P5⟩ := S.P.f3; obtain ⟨Q0, Q1, Q2, Q3, Q4, Q5⟩ := S.Q.f3; obtain ⟨N0, N1, N2, N3, N4, N5⟩ := S.N.f3; clear hb tok1; have tok2 := True.intro) | (have _t := tok2; go_at_call 24; refine (TRight_m b Z0 Z1 Z2 z0 z1 z2 bo bn bm HBO.out HBN.out HBM.out l3 l4 l5 WB.out _ (s0.below S.B) (s1.below S.B) (s2.below S.B)).mono ?_; rintro e W2 ⟨rfl, hb⟩; rw [HR2.out]; replace S := S.below hb; clear P0 P1 P2 P3 P4 P5 Q0 Q1 Q2 Q3 Q4 Q5 N0 N1 N2 N3 N4 N5; obtain ⟨P0, P1, P2, P3, P4, P5⟩ := S.P.f3; obtain ⟨Q0, Q1, Q2, Q3, Q4, Q5⟩ := S.Q.f3; obtain ⟨N0, N1, N2, N3, N4, N5⟩ := S.N.f3; clear hb tok2) | (go_at_call 47; refine (SlEqual_m X1 Z0 x1 z0 an bo a.n b.o HAN.out HBO.out _ HR3.out _ (r1.below S.B) (s0.below S.B) l1 l3).mono ?_; rintro e W3 ⟨rfl, hb⟩; replace S := S.below hb; clear P0 P1 P2 P3 P4 P5 Q0 Q1 Q2 Q3 Q4 Q5 N0 N1 N2 N3 N4 N5; obtain ⟨P0, P1, P2, P3, P4, P5⟩ := S.P.f3; obtain ⟨Q0, Q1, Q2, Q3, Q4, Q5⟩ := S.Q.f3; obtain ⟨N0, N1, N2, N3, N4, N5⟩ := S.N.f3; clear hb))
  refine bodyPost_ret (v := .tuple #[.agg #[.slice none 0 0, .slice none 0 0, .slice none 0 0], .int .i64 70]) (by simp [results, Tryz.results23, go_sem, *]; done) rfl ⟨none, 0, none, 0, none, 0, rfl, Nat.le_refl _, Nat.le_refl _, fun h => absurd rfl h, fun h => absurd rfl h, fun h => absurd rfl h, ?_⟩
  have HB := S.B
  (repeat (first | exact HB | refine Below.setCell ?_ (by dsimp only; omega) _ | refine Below.alloc ?_ (by have hs_ := HB.size; first | (simp; done) | (simp; omega) | omega) _ | apply Below.drew))
end Go.Proofs.YtehcpjodkadfnaaGreat
