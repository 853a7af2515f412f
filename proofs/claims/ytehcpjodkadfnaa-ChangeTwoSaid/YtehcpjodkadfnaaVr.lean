/- Merged out of: Qh. -/
import Derived.Test.YtehcpjodkadfnaaVq
import Derived.Test.YtehcpjodkadfnaaVm
/- Layer 7 of the heap, tables: two tables, one behind the other, as the document puts them together. -/
set_option linter.unusedSimpArgs false
set_option linter.unusedVariables false
set_option maxRecDepth 100000
namespace Go.Proofs.Ytehcpjodkadfnaa
open Go.RowKit Go.Lib

/-- what is handed back -/
def CoR (t : Tb) (code : Int) (w : World) (e : Ending) (w' : World) : Prop :=
  ∃ X0 z0 X1 z1 X2 z2, e = .returned (.tuple #[.agg #[.slice X0 t.o.length z0, .slice X1 t.n.length z1, .slice X2 t.m.length z2], .int .i64 code]) ∧ Rd w' X0 (cellsF t.o) ∧ Rd w' X1 (cellsF t.n) ∧ Rd w' X2 (cellsM t.m) ∧ Below w.heap.size w w'
theorem rCast_is (vk bits : Int) (tx s s2 : ByteArray) (k l k2 l2 : Int) (h0 : 0 ≤ bits) (h1 : bits < 18446744073709551616) (v : Value) (q : Int) (hv : castV vk bits tx k l k2 l2 = v) (hq : castE vk bits tx k l k2 l2 = q) (w : World) :
    Calls Try.prog 63 #[.agg #[.int .i64 vk, .int .u64 bits, .string tx], .agg #[.string s, .int .i64 k, .int .i64 l], .agg #[.string s2, .int .i64 k2, .int .i64 l2]] w fun e w' => e = .returned (.tuple #[v, .int .i64 q]) ∧ Below w.heap.size w w' := by
  subst hv hq; exact rCast_calls vk bits tx s s2 k l k2 l2 h0 h1 w
set_option maxHeartbeats 4000000 in
theorem rCompose_no (a b : Tb) (X0 X1 X2 Z0 Z1 Z2 : Option Addr) (x0 x1 x2 z0 z1 z2 ao an am bo bn bm : Nat) (hao : a.o.length = ao) (han : a.n.length = an) (ham : a.m.length = am) (hbo : b.o.length = bo) (hbn : b.n.length = bn) (hbm : b.m.length = bm) (l0 : ao ≤ 9223372036854775807) (l1 : an ≤ 9223372036854775807) (l2 : am ≤ 9223372036854775807) (l3 : bo ≤ 9223372036854775807) (l4 : bn ≤ 9223372036854775807) (l5 : bm ≤ 9223372036854775807) (wa : MvW a.m) (wb : MvW b.m) (sa : FdS a.o) (sb : FdS a.n) (sc : FdS b.o) (sd : FdS b.n) (w : World) (r0 : Rd w X0 (cellsF a.o)) (r1 : Rd w X1 (cellsF a.n)) (r2 : Rd w X2 (cellsM a.m)) (s0 : Rd w Z0 (cellsF b.o)) (s1 : Rd w Z1 (cellsF b.n)) (s2 : Rd w Z2 (cellsM b.m)) (hmeet : meetB a b = false) :
    Calls Try.prog 43 #[.agg #[.slice X0 ao x0, .slice X1 an x1, .slice X2 am x2], .agg #[.slice Z0 bo z0, .slice Z1 bn z1, .slice Z2 bm z2]] w fun e w' => CoR Tb.z 70 w e w' := by
  obtain ⟨q1, hq1⟩ : ∃ r, rightT a = r := ⟨_, rfl⟩
  obtain ⟨q2, hq2⟩ : ∃ r, rightT b = r := ⟨_, rfl⟩
  obtain ⟨q3, hq3⟩ : ∃ r, sameFB a.n b.o = r := ⟨_, rfl⟩
  rw [meetB, hq1, hq2, hq3] at hmeet
  have S : CoS w _ 43 [.slice X0 ao x0, .slice X1 an x1, .slice X2 am x2] [.slice Z0 bo z0, .slice Z1 bn z1, .slice Z2 bm z2] [.slice none 0 0, .slice none 0 0, .slice none 0 0] := CoS.new w _ _ _ _
  obtain ⟨P0, P1, P2, P3, P4, P5⟩ := S.P.f3
  obtain ⟨Q0, Q1, Q2, Q3, Q4, Q5⟩ := S.Q.f3
  obtain ⟨N0, N1, N2, N3, N4, N5⟩ := S.N.f3
  have HAO := Lib.hid hao; have HAN := Lib.hid han; have HAM := Lib.hid ham
  have HBO := Lib.hid hbo; have HBN := Lib.hid hbn; have HBM := Lib.hid hbm
  have HR1 := Lib.hid hq1; have HR2 := Lib.hid hq2; have HR3 := Lib.hid hq3
  have WA := Lib.hid wa; have WB := Lib.hid wb; have SA := Lib.hid sa; have SB := Lib.hid sb; have SC := Lib.hid sc; have SD := Lib.hid sd
  have tok1 := True.intro
  clear hao han ham hbo hbn hbm hq1 hq2 hq3 wa wb sa sb sc sd
  cases q1
  · clear hmeet
    go_enter Try.func43, Try.ntmps43
    go_wp2_with (first | (have _t := tok1; go_at_call 62; refine (rTRight_m a X0 X1 X2 x0 x1 x2 ao an am HAO.out HAN.out HAM.out l0 l1 l2 WA.out SA.out SB.out _ (r0.below S.B) (r1.below S.B) (r2.below S.B)).mono ?_; rintro e W1 ⟨rfl, hb⟩; rw [HR1.out]; replace S := S.below hb; clear P0 P1 P2 P3 P4 P5 Q0 Q1 Q2 Q3 Q4 Q5 N0 N1 N2 N3 N4 N5; obtain ⟨P0, P1, P2, P3, P4, P5⟩ := S.P.f3; obtain ⟨Q0, Q1, Q2, Q3, Q4, Q5⟩ := S.Q.f3; obtain ⟨N0, N1, N2, N3, N4, N5⟩ := S.N.f3; clear hb tok1; have tok2 := True.intro))
    refine bodyPost_ret (v := .tuple #[.agg #[.slice none 0 0, .slice none 0 0, .slice none 0 0], .int .i64 70]) (by simp [results, Try.results43, go_sem, *]; done) rfl ⟨none, 0, none, 0, none, 0, rfl, fun h => absurd rfl h, fun h => absurd rfl h, fun h => absurd rfl h, ?_⟩
    have HB := S.B
    (repeat (first | exact HB | refine Below.setCell ?_ (by dsimp only; omega) _ | refine Below.alloc ?_ (by have hs_ := HB.size; first | (simp; done) | (simp; omega) | omega) _ | apply Below.drew))
  cases q2
  · clear hmeet
    go_enter Try.func43, Try.ntmps43
    go_wp2_with (first | (have _t := tok1; go_at_call 62; refine (rTRight_m a X0 X1 X2 x0 x1 x2 ao an am HAO.out HAN.out HAM.out l0 l1 l2 WA.out SA.out SB.out _ (r0.below S.B) (r1.below S.B) (r2.below S.B)).mono ?_; rintro e W1 ⟨rfl, hb⟩; rw [HR1.out]; replace S := S.below hb; clear P0 P1 P2 P3 P4 P5 Q0 Q1 Q2 Q3 Q4 Q5 N0 N1 N2 N3 N4 N5; obtain ⟨P0, P1, P2, P3, P4, P5⟩ := S.P.f3; obtain ⟨Q0, Q1, Q2, Q3, Q4, Q5⟩ := S.Q.f3; obtain ⟨N0, N1, N2, N3, N4, N5⟩ := S.N.f3; clear hb tok1; have tok2 := True.intro) | (have _t := tok2; go_at_call 62; refine (rTRight_m b Z0 Z1 Z2 z0 z1 z2 bo bn bm HBO.out HBN.out HBM.out l3 l4 l5 WB.out SC.out SD.out _ (s0.below S.B) (s1.below S.B) (s2.below S.B)).mono ?_; rintro e W2 ⟨rfl, hb⟩; rw [HR2.out]; replace S := S.below hb; clear P0 P1 P2 P3 P4 P5 Q0 Q1 Q2 Q3 Q4 Q5 N0 N1 N2 N3 N4 N5; obtain ⟨P0, P1, P2, P3, P4, P5⟩ := S.P.f3; obtain ⟨Q0, Q1, Q2, Q3, Q4, Q5⟩ := S.Q.f3; obtain ⟨N0, N1, N2, N3, N4, N5⟩ := S.N.f3; clear hb tok2))
    refine bodyPost_ret (v := .tuple #[.agg #[.slice none 0 0, .slice none 0 0, .slice none 0 0], .int .i64 70]) (by simp [results, Try.results43, go_sem, *]; done) rfl ⟨none, 0, none, 0, none, 0, rfl, fun h => absurd rfl h, fun h => absurd rfl h, fun h => absurd rfl h, ?_⟩
    have HB := S.B
    (repeat (first | exact HB | refine Below.setCell ?_ (by dsimp only; omega) _ | refine Below.alloc ?_ (by have hs_ := HB.size; first | (simp; done) | (simp; omega) | omega) _ | apply Below.drew))
  obtain rfl : q3 = false := by simpa using hmeet
  clear hmeet
  go_enter Try.func43, Try.ntmps43
  go_wp2_with (first | (have _t := tok1; go_at_call 62; refine (rTRight_m a X0 X1 X2 x0 x1 x2 ao an am HAO.out HAN.out HAM.out l0 l1 l2 WA.out SA.out SB.out _ (r0.below S.B) (r1.below S.B) (r2.below S.B)).mono ?_; rintro e W1 ⟨rfl, hb⟩; rw [HR1.out]; replace S := S.below hb; clear P0 P1 P2 P3 P4 P5 Q0 Q1 Q2 Q3 Q4 Q5 N0 N1 N2 N3 N4 N5; obtain ⟨P0, P1, P2, P3, P4, P5⟩ := S.P.f3; obtain ⟨Q0, Q1, Q2, Q3, Q4, Q5⟩ := S.Q.f3; obtain ⟨N0, N1, N2, N3, N4, N5⟩ := S.N.f3; clear hb tok1; have tok2 := True.intro) | (have _t := tok2; go_at_call 62; refine (rTRight_m b Z0 Z1 Z2 z0 z1 z2 bo bn bm HBO.out HBN.out HBM.out l3 l4 l5 WB.out SC.out SD.out _ (s0.below S.B) (s1.below S.B) (s2.below S.B)).mono ?_; rintro e W2 ⟨rfl, hb⟩; rw [HR2.out]; replace S := S.below hb; clear P0 P1 P2 P3 P4 P5 Q0 Q1 Q2 Q3 Q4 Q5 N0 N1 N2 N3 N4 N5; obtain ⟨P0, P1, P2, P3, P4, P5⟩ := S.P.f3; obtain ⟨Q0, Q1, Q2, Q3, Q4, Q5⟩ := S.Q.f3; obtain ⟨N0, N1, N2, N3, N4, N5⟩ := S.N.f3; clear hb tok2) | (go_at_call 15; refine (Same6_m X1 Z0 x1 z0 an bo a.n b.o HAN.out HBO.out _ HR3.out _ (r1.below S.B) (s0.below S.B) l1 l3).mono ?_; rintro e W3 ⟨rfl, hb⟩; replace S := S.below hb; clear P0 P1 P2 P3 P4 P5 Q0 Q1 Q2 Q3 Q4 Q5 N0 N1 N2 N3 N4 N5; obtain ⟨P0, P1, P2, P3, P4, P5⟩ := S.P.f3; obtain ⟨Q0, Q1, Q2, Q3, Q4, Q5⟩ := S.Q.f3; obtain ⟨N0, N1, N2, N3, N4, N5⟩ := S.N.f3; clear hb))
  refine bodyPost_ret (v := .tuple #[.agg #[.slice none 0 0, .slice none 0 0, .slice none 0 0], .int .i64 70]) (by simp [results, Try.results43, go_sem, *]; done) rfl ⟨none, 0, none, 0, none, 0, rfl, fun h => absurd rfl h, fun h => absurd rfl h, fun h => absurd rfl h, ?_⟩
  have HB := S.B
  (repeat (first | exact HB | refine Below.setCell ?_ (by dsimp only; omega) _ | refine Below.alloc ?_ (by have hs_ := HB.size; first | (simp; done) | (simp; omega) | omega) _ | apply Below.drew))
end Go.Proofs.Ytehcpjodkadfnaa
