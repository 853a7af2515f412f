/- Merged out of: Qi. -/
import Derived.Test.YtehcpjodkadfnaaVr
/- Layer 7 of the heap, tables: two tables that meet, one behind the other, as the document puts them together. -/
set_option linter.unusedSimpArgs false
set_option linter.unusedVariables false
set_option maxRecDepth 100000
namespace Go.Proofs.Ytehcpjodkadfnaa
open Go.RowKit Go.Lib

theorem VBox3 {w : World} {b : Nat} {c : Vl} {T : TypeId} (h : OBox w b [.int .i64 c.k, .int .u64 c.b, .string c.t] T) : w.cell? ⟨b, 0, none⟩ = some (.int .i64 c.k) ∧ w.cell? ⟨b, 1, none⟩ = some (.int .u64 c.b) ∧ w.cell? ⟨b, 2, none⟩ = some (.string c.t) := ⟨h.cell rfl, h.cell rfl, h.cell rfl⟩
set_option maxHeartbeats 3000000 in
theorem rCompose_yes (a b : Tb) (X0 X1 X2 Z0 Z1 Z2 : Option Addr) (x0 x1 x2 z0 z1 z2 ao an am bo bn bm : Nat) (hao : a.o.length = ao) (han : a.n.length = an) (ham : a.m.length = am) (hbo : b.o.length = bo) (hbn : b.n.length = bn) (hbm : b.m.length = bm) (l0 : ao ≤ 9223372036854775807) (l1 : an ≤ 9223372036854775807) (l2 : am ≤ 9223372036854775807) (l3 : bo ≤ 9223372036854775807) (l4 : bn ≤ 9223372036854775807) (l5 : bm ≤ 9223372036854775807) (wa : MvW a.m) (wb : MvW b.m) (sa : FdS a.o) (sb : FdS a.n) (sc : FdS b.o) (sd : FdS b.n) (w : World) (r0 : Rd w X0 (cellsF a.o)) (r1 : Rd w X1 (cellsF a.n)) (r2 : Rd w X2 (cellsM a.m)) (s0 : Rd w Z0 (cellsF b.o)) (s1 : Rd w Z1 (cellsF b.n)) (s2 : Rd w Z2 (cellsM b.m)) (hmeet : meetB a b = true) (r : Bool) (hr : rightT (compT a b) = r) :
    Calls Try.prog 43 #[.agg #[.slice X0 ao x0, .slice X1 an x1, .slice X2 am x2], .agg #[.slice Z0 bo z0, .slice Z1 bn z1, .slice Z2 bm z2]] w fun e w' => CoR (bif r then compT a b else Tb.z) (bif r then 0 else 70) w e w' := by
  obtain ⟨i0, hi, hz0, hz1, hz2⟩ := info_parts infoMr
  obtain ⟨hq1, hq2, hq⟩ := meetB_iff.1 hmeet
  have hq3 : sameFB a.n b.o = true := by simp [sameFB, hq]
  obtain ⟨_, _, _⟩ := rightT_16 hq1
  obtain ⟨_, _, _⟩ := rightT_16 hq2
  have hmn : bm = bn := by rw [← hbm, ← hbn]; exact (rightT_iff.1 hq2).2.2.1
  have hat := fun k x g hx hg => comp_at (k := k) (m := x) (g := g) wa hq1 hq2 hq hx hg
  have hrr : r = decide (∀ k, k < bm → okAt (compT a b) k = true) := by rw [← hr, ← hbm]; exact compT_right hmeet
  have S : CoS w _ 43 [.slice X0 ao x0, .slice X1 an x1, .slice X2 am x2] [.slice Z0 bo z0, .slice Z1 bn z1, .slice Z2 bm z2] [.slice none 0 0, .slice none 0 0, .slice none 0 0] := CoS.new w _ _ _ _
  obtain ⟨P0, P1, P2, P3, P4, P5⟩ := S.P.f3
  obtain ⟨Q0, Q1, Q2, Q3, Q4, Q5⟩ := S.Q.f3
  obtain ⟨N0, N1, N2, N3, N4, N5⟩ := S.N.f3
  have HAO := Lib.hid hao; have HAN := Lib.hid han; have HAM := Lib.hid ham
  have HBO := Lib.hid hbo; have HBN := Lib.hid hbn; have HBM := Lib.hid hbm
  have HR1 := Lib.hid hq1; have HR2 := Lib.hid hq2; have HR3 := Lib.hid hq3
  have WA := Lib.hid wa; have WB := Lib.hid wb; have HAT := Lib.hid hat; have HRR := Lib.hid hrr
  have SA := Lib.hid sa; have SB := Lib.hid sb; have SC := Lib.hid sc; have SD := Lib.hid sd
  have tok1 := True.intro
  have hb16 : bm ≤ 16 := by omega
  have HMN := Lib.hid hmn
  clear hao han ham hbo hbn hbm hq1 hq2 hq3 wa wb hat hq hr hrr hmeet hmn sa sb sc sd
  go_enter Try.func43, Try.ntmps43
  go_upto_region 3 with (first | (have _t := tok1; go_at_call 62; refine (rTRight_m a X0 X1 X2 x0 x1 x2 ao an am HAO.out HAN.out HAM.out l0 l1 l2 WA.out SA.out SB.out _ (r0.below S.B) (r1.below S.B) (r2.below S.B)).mono ?_; rintro e W1 ⟨rfl, hb⟩; rw [HR1.out]; replace S := S.below hb; clear P0 P1 P2 P3 P4 P5 Q0 Q1 Q2 Q3 Q4 Q5 N0 N1 N2 N3 N4 N5; obtain ⟨P0, P1, P2, P3, P4, P5⟩ := S.P.f3; obtain ⟨Q0, Q1, Q2, Q3, Q4, Q5⟩ := S.Q.f3; obtain ⟨N0, N1, N2, N3, N4, N5⟩ := S.N.f3; clear hb tok1; have tok2 := True.intro) | (have _t := tok2; go_at_call 62; refine (rTRight_m b Z0 Z1 Z2 z0 z1 z2 bo bn bm HBO.out HBN.out HBM.out l3 l4 l5 WB.out SC.out SD.out _ (s0.below S.B) (s1.below S.B) (s2.below S.B)).mono ?_; rintro e W2 ⟨rfl, hb⟩; rw [HR2.out]; replace S := S.below hb; clear P0 P1 P2 P3 P4 P5 Q0 Q1 Q2 Q3 Q4 Q5 N0 N1 N2 N3 N4 N5; obtain ⟨P0, P1, P2, P3, P4, P5⟩ := S.P.f3; obtain ⟨Q0, Q1, Q2, Q3, Q4, Q5⟩ := S.Q.f3; obtain ⟨N0, N1, N2, N3, N4, N5⟩ := S.N.f3; clear hb tok2) | (go_at_call 15; refine (Same6_m X1 Z0 x1 z0 an bo a.n b.o HAN.out HBO.out _ HR3.out _ (r1.below S.B) (s0.below S.B) l1 l3).mono ?_; rintro e W3 ⟨rfl, hb⟩; replace S := S.below hb; clear P0 P1 P2 P3 P4 P5 Q0 Q1 Q2 Q3 Q4 Q5 N0 N1 N2 N3 N4 N5; obtain ⟨P0, P1, P2, P3, P4, P5⟩ := S.P.f3; obtain ⟨Q0, Q1, Q2, Q3, Q4, Q5⟩ := S.Q.f3; obtain ⟨N0, N1, N2, N3, N4, N5⟩ := S.N.f3; clear hb))
  have hzS := S.N.lt
  have PB0 := OBox.new W3 [.slice X0 ao x0, .slice Z1 bn z1, .slice none 0 0] 43
  have nb3 := below_new (w := W3) (.cells #[.slice X0 ao x0, .slice Z1 bn z1, .slice none 0 0] 43)
  go_upto_region 4 with fail
  have hp2 : w.heap.size + 2 < W3.heap.size := hzS
  have S0 := S.below nb3
  generalize W3.alloc (.cells #[.slice X0 ao x0, .slice Z1 bn z1, .slice none 0 0] 43) = Wc at *
  obtain ⟨p, hpp⟩ : ∃ p, W3.heap.size = p := ⟨_, rfl⟩
  have hpz := PB0.lt
  rw [hpp] at hp2 hpz PB0 ⊢
  have HP2 := Lib.hid hp2
  have HPZ := Lib.hid hpz
  clear P0 P1 P2 P3 P4 P5 Q0 Q1 Q2 Q3 Q4 Q5 N0 N1 N2 N3 N4 N5 nb3 hzS hpp hp2 hpz S
  clear W1 W2 W3
  go_wp2
  go_loopw [5, 7, 8, 9, 10, 11] (fun u i _ _ _ _ wr => ∃ (k : Nat) (v : Value), k ≤ bm ∧ u = .int .i64 0 ∧ i = .int .i64 k ∧ wr.ownsRow Wc.heap.size 71 4 v k (cellsM (compM a b k)) ∧ OBox wr p [.slice X0 ao x0, .slice Z1 bn z1, v] 43 ∧ Wc.heap.size ≤ wr.heap.size ∧ CoS w wr 43 [.slice X0 ao x0, .slice X1 an x1, .slice X2 am x2] [.slice Z0 bo z0, .slice Z1 bn z1, .slice Z2 bm z2] [.slice none 0 0, .slice none 0 0, .slice none 0 0] ∧ Hid (∀ j, j < k → okAt (compT a b) j = true)) (fun _ i _ _ _ _ _ => bm - (intOf i).toNat)
  case atStart => exact ⟨0, _, by omega, rfl, rfl, own_nil _ _ _ _, PB0, Nat.le_refl _, S0, Lib.hid (fun j hj => by omega)⟩
  case round =>
    obtain ⟨k, v, hk, rfl, rfl, hown, PB, hwcr, S, hall⟩ := hrel
    clear S0 PB0
    by_cases hlt : k < bm
    · obtain ⟨x, hx⟩ : ∃ x, b.m[k]? = some x := ⟨_, List.getElem?_eq_getElem (by rw [HBM.out]; exact hlt)⟩
      obtain ⟨g, hg⟩ : ∃ y, b.n[k]? = some y := ⟨_, List.getElem?_eq_getElem (by rw [HBN.out, ← HMN.out]; exact hlt)⟩
      obtain ⟨y, hy⟩ : ∃ y, compMv a b k = y := ⟨_, rfl⟩
      have hw := HAT.out k x g hx hg
      have HK := Lib.hid (comp_cells a b hy)
      rw [hy] at hw
      have hi0 : (0 : Int) ≤ (k : Int) := by omega
      have hi1 : (k : Int) < (bm : Int) := by omega
      have hi2 : (k : Int) < (bn : Int) := by have := HMN.out; omega
      have RM := s2.below S.B
      obtain ⟨ad, ea, c0, c1, c2, c3⟩ := RM.mv hx
      obtain ⟨gd, eg, _, _, _⟩ := s1.fld hg
      subst ea eg
      have HG := Lib.hid hg
      have HWY := Lib.hid hw
      clear RM hx hg hy hw
      obtain ⟨Q0, Q1, Q2, Q3, Q4, Q5⟩ := S.Q.f3
      go_upto_if 48 with fail
      have MB := OBox.new wr [.int .i64 x.f, .int .i64 x.d.k, .int .u64 x.d.b, .string x.d.t] 71
      have nb := below_new (w := wr) (.cells #[.int .i64 x.f, .int .i64 x.d.k, .int .u64 x.d.b, .string x.d.t] 71)
      have hsz : wr.heap.size < (wr.alloc (.cells #[.int .i64 x.f, .int .i64 x.d.k, .int .u64 x.d.b, .string x.d.t] 71)).heap.size := by simp
      generalize wr.alloc (.cells #[.int .i64 x.f, .int .i64 x.d.k, .int .u64 x.d.b, .string x.d.t] 71) = W4 at *
      clear c0 c1 c2 c3 Q0 Q1 Q2 Q3 Q4 Q5
      have S4 := S.below nb
      obtain ⟨m0, m1, m2, m3, z0', z1', z2', z3'⟩ := MBox4 MB
      by_cases hok : okAt (compT a b) k = true
      · go_cut [5, 9, 10, 11] (fun u _ _ _ wx => u = .int .i64 0 ∧ MBox wx wr.heap.size y ∧ Below wr.heap.size wr wx ∧ wr.heap.size < wx.heap.size)
        case first =>
          rcases HWY.out with ⟨hxf, e, _⟩ | ⟨hxf, n, f, hn, hf1, hf2, h3⟩
          · have e1 : decide ((0 : Int) ≤ x.f) = false := by simp; omega
            go_wp2_with fail
            go_meet
            exact ⟨rfl, by rw [e]; exact MBox.of MB, nb, hsz⟩
          · have HOK := Lib.hid hok
            clear hok
            have e1 : decide ((0 : Int) ≤ x.f) = true := by simpa using hxf
            have hxl : x.f < (bo : Int) := by have := (List.getElem?_eq_some_iff.1 hf2).1; have := HBO.out; omega
            have hxm : x.f < (am : Int) := by have := (List.getElem?_eq_some_iff.1 hn).1; have := HAM.out; omega
            obtain ⟨od, eo, _, _, _⟩ := s0.fld hf2
            subst eo
            obtain ⟨nd, en, n0, n1, n2, n3⟩ := (r2.below S4.B).mv hn
            subst en
            obtain ⟨b0, b1⟩ := WA.out n (List.mem_of_getElem? hn)
            have HF := Lib.hid hf2
            clear hn hf1 hf2
            obtain ⟨P0, P1, P2, P3, P4, P5⟩ := S4.P.f3
            have nb5 := below_new (w := W4) (.cells #[.int .i64 n.f, .int .i64 n.d.k, .int .u64 n.d.b, .string n.d.t] 71)
            have N5 := OBox.new W4 [.int .i64 n.f, .int .i64 n.d.k, .int .u64 n.d.b, .string n.d.t] 71
            go_upto_region 10 with fail
            generalize W4.alloc (.cells #[.int .i64 n.f, .int .i64 n.d.k, .int .u64 n.d.b, .string n.d.t] 71) = W5 at *
            clear n0 n1 n2 n3 m0 m1 m2 m3 z0' z1' z2' z3' P0 P1 P2 P3 P4 P5
            have S5 := S4.below nb5
            have M5 := MB.below nb5
            have hb5 := below_seq nb nb5
            have hz5 := N5.lt
            rcases h3 with ⟨hnf, e, _⟩ | ⟨hnf, e, h, hh, hat2⟩
            · have e2 : decide ((0 : Int) ≤ n.f) = false := by simp; omega
              have e3 : decide (n.f < (0 : Int)) = true := by simpa using hnf
              obtain ⟨c, hc⟩ : ∃ c, castL n.d f g = c := ⟨_, rfl⟩
              have hv := castL_va n.d f g
              rw [hc] at e hv
              have HV := Lib.hid hv
              clear hv hc
              refine RW.start (fun w' => Below W5.heap.size W5 w') (by kernel_rfl) (by kernel_rfl) (Below.refl _ _).drew ?_
              repeat (first
                | (refine' RW.val (by rfl) ?_ ?_; rotate_left; (focus (intro w' hS; have HB5 := hS; obtain ⟨a0, a1, a2, a3, _, _, _, _⟩ := MBox4 (N5.below HB5); clear hS; go_simp; rfl)); simp only [Act.put, List.setIfInBounds_toArray, List.set_cons_zero, List.set_cons_succ])
                | (refine RW.off (by rfl) ?_; simp only [Act.put, List.setIfInBounds_toArray, List.set_cons_zero, List.set_cons_succ]))
              refine RW.done (fun w' hS => ?_)
              have HB5 := hS; obtain ⟨a0, a1, a2, a3, _, _, _, _⟩ := MBox4 (N5.below HB5); clear hS
              have N6 := N5.below HB5
              have M6 := M5.below HB5
              have S6 := S5.below HB5
              have hb6 := below_seq hb5 HB5
              have hz6 := N6.lt
              have hz6' := M6.lt
              go_upto_region 13 with fail
              have hall : ∀ W, Below w'.heap.size w' W → W.cell? ⟨W4.heap.size, 1, none⟩ = some (.int .i64 n.d.k) ∧ W.cell? ⟨W4.heap.size, 2, none⟩ = some (.int .u64 n.d.b) ∧ W.cell? ⟨W4.heap.size, 3, none⟩ = some (.string n.d.t) ∧ W.cell? ⟨w.heap.size + 1, 0, none⟩ = some (.slice (some od) bo z0) ∧ W.cell? ⟨wr.heap.size, 0, none⟩ = some (.int .i64 x.f) ∧ W.cell? (od.add (x.f.toNat * 3)) = some (.string f.s) ∧ W.cell? ⟨(od.add (x.f.toNat * 3)).block, (od.add (x.f.toNat * 3)).off + (0 + 1), none⟩ = some (.int .i64 f.k) ∧ W.cell? ⟨(od.add (x.f.toNat * 3)).block, (od.add (x.f.toNat * 3)).off + (1 + 1), none⟩ = some (.int .i64 f.l) ∧ W.cell? ⟨w.heap.size + 1, 1, none⟩ = some (.slice (some gd) bn z1) ∧ W.cell? (gd.add (k * 3)) = some (.string g.s) ∧ W.cell? ⟨(gd.add (k * 3)).block, (gd.add (k * 3)).off + (0 + 1), none⟩ = some (.int .i64 g.k) ∧ W.cell? ⟨(gd.add (k * 3)).block, (gd.add (k * 3)).off + (1 + 1), none⟩ = some (.int .i64 g.l) ∧ Below w'.heap.size w' W := fun W hb => by
                obtain ⟨_, q1, q2, q3, _⟩ := MBox4 (N6.below hb)
                obtain ⟨q4, _⟩ := MBox4 (M6.below hb)
                have S7 := S6.below hb
                obtain ⟨q5, q6, _⟩ := S7.Q.f3
                obtain ⟨_, ea, f0, f1, f2⟩ := (s0.below S7.B).fld HF.out
                cases ea
                obtain ⟨_, eb, g0, g1, g2⟩ := (s1.below S7.B).fld HG.out
                cases eb
                exact ⟨q1, q2, q3, q5, q4, f0, f1, f2, q6, g0, g1, g2, hb⟩
              go_cut [10, 11] (fun s10 s11 wx => ∃ q z, s10 = .pointer (some ⟨q, 0, none⟩) ∧ s11 = .int .i64 z ∧ OBox wx q [.int .i64 c.k, .int .u64 c.b, .string c.t] 27 ∧ OBox wx W4.heap.size [.int .i64 n.f, .int .i64 n.d.k, .int .u64 n.d.b, .string n.d.t] 71 ∧ OBox wx wr.heap.size [.int .i64 x.f, .int .i64 x.d.k, .int .u64 x.d.b, .string x.d.t] 71 ∧ Below wr.heap.size wr wx ∧ w'.heap.size ≤ q)
              case first =>
                go_region_held3 (fun W => W.cell? ⟨W4.heap.size, 1, none⟩ = some (.int .i64 n.d.k) ∧ W.cell? ⟨W4.heap.size, 2, none⟩ = some (.int .u64 n.d.b) ∧ W.cell? ⟨W4.heap.size, 3, none⟩ = some (.string n.d.t) ∧ W.cell? ⟨w.heap.size + 1, 0, none⟩ = some (.slice (some od) bo z0) ∧ W.cell? ⟨wr.heap.size, 0, none⟩ = some (.int .i64 x.f) ∧ W.cell? (od.add (x.f.toNat * 3)) = some (.string f.s) ∧ W.cell? ⟨(od.add (x.f.toNat * 3)).block, (od.add (x.f.toNat * 3)).off + (0 + 1), none⟩ = some (.int .i64 f.k) ∧ W.cell? ⟨(od.add (x.f.toNat * 3)).block, (od.add (x.f.toNat * 3)).off + (1 + 1), none⟩ = some (.int .i64 f.l) ∧ W.cell? ⟨w.heap.size + 1, 1, none⟩ = some (.slice (some gd) bn z1) ∧ W.cell? (gd.add (k * 3)) = some (.string g.s) ∧ W.cell? ⟨(gd.add (k * 3)).block, (gd.add (k * 3)).off + (0 + 1), none⟩ = some (.int .i64 g.k) ∧ W.cell? ⟨(gd.add (k * 3)).block, (gd.add (k * 3)).off + (1 + 1), none⟩ = some (.int .i64 g.l) ∧ Below w'.heap.size w' W) ((refine hall _ ?_; repeat (first | assumption | exact Below.refl _ _ | refine Below.setCell ?_ (by dsimp only; first | exact Nat.le_refl _ | omega) _ | refine Below.alloc ?_ (by first | exact Nat.le_refl _ | omega) _ | apply Below.drew)))
                  (first
                    | (go_at_call 63; obtain ⟨_, _, _, _, _, _, _, _, _, _, _, _, HBx⟩ := ‹_ ∧ _ ∧ _ ∧ _ ∧ _ ∧ _ ∧ _ ∧ _ ∧ _ ∧ _ ∧ _ ∧ _ ∧ Below w'.heap.size w' _›; refine (rCast_is n.d.k n.d.b n.d.t f.s g.s f.k f.l g.k g.l b0 b1 _ _ HV.out rfl _).mono ?_; rintro e' W8 ⟨rfl, hb⟩; have HB8 : Below w'.heap.size w' W8 := below_seq HBx hb; have hz8 := HB8.size; (first | (have VB := OBox.below (OBox.new _ [.int .i64 0, .int .u64 0, .string ⟨#[]⟩] 27) hb) | (have VB := OBox.newB (cs := [.int .i64 0, .int .u64 0, .string ⟨#[]⟩]) hb) | skip); (first | (obtain ⟨v0, v1, v2, v3, v4, v5⟩ := VB.f3) | skip)))
                all_goals (go_wp2_with fail; go_meet; refine ⟨_, _, rfl, rfl, ?_, N6.below ?_, M6.below ?_, below_seq hb6 ?_, ?_⟩)
                all_goals first
                  | exact OBox.new _ _ _
                  | (exact obox_set (obox_set (obox_set VB 0 _) 1 _) 2 _)
                  | exact Nat.le_refl _
                  | exact hz8
                  | (repeat (first | assumption | exact Below.refl _ _ | refine Below.setCell ?_ (by dsimp only; first | exact Nat.le_refl _ | omega) _ | refine Below.alloc ?_ (by first | exact Nat.le_refl _ | omega) _ | apply Below.drew))
              case rest =>
                obtain ⟨q, z, rfl, rfl, VB, N7, M7, hb7, hq⟩ := hcut
                clear a0 a1 a2 a3
                obtain ⟨a0, a1, a2, a3, A0, A1, A2, A3⟩ := MBox4 N7
                obtain ⟨m0, m1, m2, m3, z0', z1', z2', z3'⟩ := MBox4 M7
                obtain ⟨v0, v1, v2⟩ := VBox3 VB
                go_wp2_with fail
                go_meet
                refine ⟨rfl, ?_, ?_, ?_⟩
                · rw [e]
                  exact MBox.of (m := ⟨n.f, c⟩) (T := 71) (obox_set (obox_set (obox_set (obox_set (OBox.far (OBox.far (OBox.far M7 (p := ⟨W4.heap.size, 1, none⟩) (by show W4.heap.size ≠ _; omega) (.int .i64 c.k)) (p := ⟨W4.heap.size, 2, none⟩) (by show W4.heap.size ≠ _; omega) (.int .u64 c.b)) (p := ⟨W4.heap.size, 3, none⟩) (by show W4.heap.size ≠ _; omega) (.string c.t)) 0 (.int .i64 n.f)) 1 (.int .i64 c.k)) 2 (.int .u64 c.b)) 3 (.string c.t))
                · exact ((((((hb7.setCell (p := ⟨W4.heap.size, 1, none⟩) (Nat.le_of_lt hsz) (.int .i64 c.k)).setCell (p := ⟨W4.heap.size, 2, none⟩) (Nat.le_of_lt hsz) (.int .u64 c.b)).setCell (p := ⟨W4.heap.size, 3, none⟩) (Nat.le_of_lt hsz) (.string c.t)).setCell (p := ⟨wr.heap.size, 0, none⟩) (Nat.le_refl _) (.int .i64 n.f)).setCell (p := ⟨wr.heap.size, 1, none⟩) (Nat.le_refl _) (.int .i64 c.k)).setCell (p := ⟨wr.heap.size, 2, none⟩) (Nat.le_refl _) (.int .u64 c.b)).setCell (p := ⟨wr.heap.size, 3, none⟩) (Nat.le_refl _) (.string c.t)
                · have := M7.lt
                  simp
                  omega
            · have hok := HOK.out
              have e2 : decide ((0 : Int) ≤ n.f) = true := by simpa using hnf
              have e3 : decide (n.f < (0 : Int)) = false := by simp; omega
              have hnl : n.f < (ao : Int) := by have := (List.getElem?_eq_some_iff.1 hh).1; have := HAO.out; omega
              obtain ⟨hd, eh, _, _, _⟩ := r0.fld hh
              subst eh
              have HH := Lib.hid hh
              have HC := Lib.hid (hat2.symm.trans hok)
              clear hh hat2
              refine RW.start (fun w' => Below W5.heap.size W5 w') (by kernel_rfl) (by kernel_rfl) (Below.refl _ _).drew ?_
              repeat (first
                | (refine' RW.val (by rfl) ?_ ?_; rotate_left; (focus (intro w' hS; have HB5 := hS; obtain ⟨a0, a1, a2, a3, _, _, _, _⟩ := MBox4 (N5.below HB5); obtain ⟨P0, P1, P2, P3, P4, P5⟩ := (S5.below HB5).P.f3; obtain ⟨Q0, Q1, Q2, Q3, Q4, Q5⟩ := (S5.below HB5).Q.f3; obtain ⟨_, eh, h0, h1, h2⟩ := (r0.below (S5.below HB5).B).fld HH.out; cases eh; obtain ⟨_, eg, g0, g1, g2⟩ := (s1.below (S5.below HB5).B).fld HG.out; cases eg; clear hS; go_simp; rfl)); simp only [Act.put, List.setIfInBounds_toArray, List.set_cons_zero, List.set_cons_succ])
                | (refine RW.off (by rfl) ?_; simp only [Act.put, List.setIfInBounds_toArray, List.set_cons_zero, List.set_cons_succ])
                | (refine' RW.call (by rfl) ?_ ?_ ?_
                   rotate_left 3
                   (focus (intro w' hS; have HB5 := hS; obtain ⟨a0, a1, a2, a3, _, _, _, _⟩ := MBox4 (N5.below HB5); obtain ⟨P0, P1, P2, P3, P4, P5⟩ := (S5.below HB5).P.f3; obtain ⟨Q0, Q1, Q2, Q3, Q4, Q5⟩ := (S5.below HB5).Q.f3; obtain ⟨_, eh, h0, h1, h2⟩ := (r0.below (S5.below HB5).B).fld HH.out; cases eh; obtain ⟨_, eg, g0, g1, g2⟩ := (s1.below (S5.below HB5).B).fld HG.out; cases eg; clear hS; go_simp; exact ⟨rfl, rfl⟩))
                   (focus
                     intro w' hS
                     have HB5 := hS; obtain ⟨a0, a1, a2, a3, _, _, _, _⟩ := MBox4 (N5.below HB5); obtain ⟨P0, P1, P2, P3, P4, P5⟩ := (S5.below HB5).P.f3; obtain ⟨Q0, Q1, Q2, Q3, Q4, Q5⟩ := (S5.below HB5).Q.f3; obtain ⟨_, eh, h0, h1, h2⟩ := (r0.below (S5.below HB5).B).fld HH.out; cases eh; obtain ⟨_, eg, g0, g1, g2⟩ := (s1.below (S5.below HB5).B).fld HG.out; cases eg; clear hS
                     first
                       | (refine (rCasts_is h.s g.s h.k h.l g.k g.l true HC.out _).mono ?_; rintro e w1 ⟨rfl, hb⟩; exact ⟨rfl, (below_seq HB5 hb)⟩))
                   simp only [Act.put, List.setIfInBounds_toArray, List.set_cons_zero, List.set_cons_succ]))
              refine RW.done (fun w' hS => ?_)
              have HB5 := hS; obtain ⟨a0, a1, a2, a3, _, _, _, _⟩ := MBox4 (N5.below HB5); obtain ⟨P0, P1, P2, P3, P4, P5⟩ := (S5.below HB5).P.f3; obtain ⟨Q0, Q1, Q2, Q3, Q4, Q5⟩ := (S5.below HB5).Q.f3; obtain ⟨_, eh, h0, h1, h2⟩ := (r0.below (S5.below HB5).B).fld HH.out; cases eh; obtain ⟨_, eg, g0, g1, g2⟩ := (s1.below (S5.below HB5).B).fld HG.out; cases eg; clear hS
              obtain ⟨m0, m1, m2, m3, z0', z1', z2', z3'⟩ := MBox4 (M5.below HB5)
              go_wp2_with fail
              go_meet
              refine ⟨rfl, ?_, ?_, ?_⟩
              · rw [e]
                exact MBox.of (T := 71) (obox_set (obox_set (obox_set (obox_set (M5.below HB5) 0 (.int .i64 n.f)) 1 (.int .i64 n.d.k)) 2 (.int .u64 n.d.b)) 3 (.string n.d.t))
              · exact ((((below_seq hb5 HB5).setCell (p := ⟨wr.heap.size, 0, none⟩) (Nat.le_refl _) (.int .i64 n.f)).setCell (p := ⟨wr.heap.size, 1, none⟩) (Nat.le_refl _) (.int .i64 n.d.k)).setCell (p := ⟨wr.heap.size, 2, none⟩) (Nat.le_refl _) (.int .u64 n.d.b)).setCell (p := ⟨wr.heap.size, 3, none⟩) (Nat.le_refl _) (.string n.d.t)
              · have := HB5.size
                have := hb5.size
                simp
                omega
        case rest =>
          obtain ⟨rfl, MY, hb9, hz9⟩ := hcut
          clear m0 m1 m2 m3 z0' z1' z2' z3' MB nb hsz S4
          rename World => W9
          have hown9 := own_below hown hb9
          have P9 := PB.below hb9
          have hpz := HPZ.out
          have hp2 := HP2.out
          have hz29 := hb9.size
          have hall2 : Hid (∀ j, j < k + 1 → okAt (compT a b) j = true) := Lib.hid (fun j hj => by
            rcases (by omega : j < k ∨ j = k) with h | rfl
            · exact hall.out j h
            · exact hok)
          obtain ⟨m0, m1, m2, m3⟩ := MY
          obtain ⟨k0, k1, k2, f0, f1, f2⟩ := P9.f3
          go_wp2_with (at_builtin; refine wpList_append_own _ rfl _ _ 41 rfl Wc.heap.size 71 i0 (.agg #[.int .i64 0, .int .i64 0, .int .u64 0, .string ⟨#[]⟩]) 4 40 Try.underlying41 hi hz0 hz1 hz2 rfl (by decide) _ _ _ rfl (hown9.alloc _) ⟨W9.heap.size, 0, none⟩ 1 1 [.int .i64 y.f, .int .i64 y.d.k, .int .u64 y.d.b, .string y.d.t] rfl rfl ?c1 ?c2 ?c3 ?c4 ?c5 ?_)
          case c1 => exact news4 _ _ _ _ _ _
          case c2 => intro u hu; simp at hu; rcases hu with rfl | rfl | rfl | rfl <;> rfl
          case c3 => simp only [maxLen]; omega
          case c4 => omega
          case c5 => simp <;> omega
          intro v' w3 hown' hgrow _
          have BG : Below Wc.heap.size W9 w3 := ((Below.refl _ _).alloc (by omega) (.cells #[.int .i64 y.f, .int .i64 y.d.k, .int .u64 y.d.b, .string y.d.t] 71)).grown hgrow (by simp <;> omega) (fun q hq => own_base hown9 q hq)
          have BG2 : Below Wc.heap.size wr w3 := (hb9.mono hwcr).trans BG
          have O3 : OBox w3 p [.slice X0 ao x0, .slice (some gd) bn z1, v] 43 := (BG2.block _ hpz).trans PB
          have hown3 : w3.ownsRow Wc.heap.size 71 4 v' (k + 1) (cellsM (compM a b (k + 1))) := own_eq hown' (by simp) (by rw [HK.out])
          have hz3 := BG.size
          obtain ⟨B', c', rfl, _, _, _⟩ := own_rd hown3
          clear hown' hgrow hown k0 k1 k2 f0 f1 f2 m0 m1 m2 m3
          obtain ⟨k0, k1, k2, f0, f1, f2⟩ := O3.f3
          go_wp2
          go_roundw
          case rel => exact ⟨k + 1, _, by omega, rfl, by go_num, ownsRow_setCell_below hown3 (by show p < _; omega) _, obox_set O3 2 _, by show _ ≤ (World.setCell _ _ _).heap.size; simp; omega, S.step (by omega) BG2 hp2 2 _, hall2⟩
          case measure => simp [intOf]; omega
      · have hokn := hok
        have hokf : okAt (compT a b) k = false := by simpa using hok
        have hrf : r = false := by rw [HRR.out]; exact decide_eq_false (fun h => hok (h k hlt))
        subst hrf
        clear hok
        rcases HWY.out with ⟨hxf, e, ho⟩ | ⟨hxf, n, f, hn, hf1, hf2, ⟨hnf, e, ho⟩ | ⟨hnf, e, h, hh, hat2⟩⟩
        · rw [hokf] at ho; cases ho
        · rw [hokf] at ho; cases ho
        have hok := hokf
        clear hokf
        have e1 : decide ((0 : Int) ≤ x.f) = true := by simpa using hxf
        have hxl : x.f < (bo : Int) := by have := (List.getElem?_eq_some_iff.1 hf2).1; have := HBO.out; omega
        have hxm : x.f < (am : Int) := by have := (List.getElem?_eq_some_iff.1 hn).1; have := HAM.out; omega
        obtain ⟨od, eo, _, _, _⟩ := s0.fld hf2
        subst eo
        obtain ⟨nd, en, n0, n1, n2, n3⟩ := (r2.below S4.B).mv hn
        subst en
        obtain ⟨b0, b1⟩ := WA.out n (List.mem_of_getElem? hn)
        have HF := Lib.hid hf2
        clear hn hf1 hf2
        obtain ⟨P0, P1, P2, P3, P4, P5⟩ := S4.P.f3
        have nb5 := below_new (w := W4) (.cells #[.int .i64 n.f, .int .i64 n.d.k, .int .u64 n.d.b, .string n.d.t] 71)
        have N5 := OBox.new W4 [.int .i64 n.f, .int .i64 n.d.k, .int .u64 n.d.b, .string n.d.t] 71
        go_upto_region 10 with fail
        generalize W4.alloc (.cells #[.int .i64 n.f, .int .i64 n.d.k, .int .u64 n.d.b, .string n.d.t] 71) = W5 at *
        clear n0 n1 n2 n3 m0 m1 m2 m3 z0' z1' z2' z3' P0 P1 P2 P3 P4 P5
        have S5 := S4.below nb5
        have M5 := MB.below nb5
        have hb5 := below_seq nb nb5
        have hz5 := N5.lt
        have e2 : decide ((0 : Int) ≤ n.f) = true := by simpa using hnf
        have e3 : decide (n.f < (0 : Int)) = false := by simp; omega
        have hnl : n.f < (ao : Int) := by have := (List.getElem?_eq_some_iff.1 hh).1; have := HAO.out; omega
        obtain ⟨hd, eh, _, _, _⟩ := r0.fld hh
        subst eh
        have HH := Lib.hid hh
        have HC := Lib.hid (hat2.symm.trans hok)
        clear hh hat2
        refine RW.start (fun w' => Below W5.heap.size W5 w') (by kernel_rfl) (by kernel_rfl) (Below.refl _ _).drew ?_
        repeat (first
          | (refine' RW.val (by rfl) ?_ ?_; rotate_left; (focus (intro w' hS; have HB5 := hS; obtain ⟨a0, a1, a2, a3, _, _, _, _⟩ := MBox4 (N5.below HB5); obtain ⟨P0, P1, P2, P3, P4, P5⟩ := (S5.below HB5).P.f3; obtain ⟨Q0, Q1, Q2, Q3, Q4, Q5⟩ := (S5.below HB5).Q.f3; obtain ⟨_, eh, h0, h1, h2⟩ := (r0.below (S5.below HB5).B).fld HH.out; cases eh; obtain ⟨_, eg, g0, g1, g2⟩ := (s1.below (S5.below HB5).B).fld HG.out; cases eg; clear hS; go_simp; rfl)); simp only [Act.put, List.setIfInBounds_toArray, List.set_cons_zero, List.set_cons_succ])
          | (refine RW.off (by rfl) ?_; simp only [Act.put, List.setIfInBounds_toArray, List.set_cons_zero, List.set_cons_succ])
          | (refine' RW.call (by rfl) ?_ ?_ ?_
             rotate_left 3
             (focus (intro w' hS; have HB5 := hS; obtain ⟨a0, a1, a2, a3, _, _, _, _⟩ := MBox4 (N5.below HB5); obtain ⟨P0, P1, P2, P3, P4, P5⟩ := (S5.below HB5).P.f3; obtain ⟨Q0, Q1, Q2, Q3, Q4, Q5⟩ := (S5.below HB5).Q.f3; obtain ⟨_, eh, h0, h1, h2⟩ := (r0.below (S5.below HB5).B).fld HH.out; cases eh; obtain ⟨_, eg, g0, g1, g2⟩ := (s1.below (S5.below HB5).B).fld HG.out; cases eg; clear hS; go_simp; exact ⟨rfl, rfl⟩))
             (focus
               intro w' hS
               have HB5 := hS; obtain ⟨a0, a1, a2, a3, _, _, _, _⟩ := MBox4 (N5.below HB5); obtain ⟨P0, P1, P2, P3, P4, P5⟩ := (S5.below HB5).P.f3; obtain ⟨Q0, Q1, Q2, Q3, Q4, Q5⟩ := (S5.below HB5).Q.f3; obtain ⟨_, eh, h0, h1, h2⟩ := (r0.below (S5.below HB5).B).fld HH.out; cases eh; obtain ⟨_, eg, g0, g1, g2⟩ := (s1.below (S5.below HB5).B).fld HG.out; cases eg; clear hS
               first
                 | (refine (rCasts_is h.s g.s h.k h.l g.k g.l false HC.out _).mono ?_; rintro e w1 ⟨rfl, hb⟩; exact ⟨rfl, (below_seq HB5 hb)⟩))
             simp only [Act.put, List.setIfInBounds_toArray, List.set_cons_zero, List.set_cons_succ]))
        refine RW.done (fun w' hS => ?_)
        have HB5 := hS; obtain ⟨a0, a1, a2, a3, _, _, _, _⟩ := MBox4 (N5.below HB5); obtain ⟨P0, P1, P2, P3, P4, P5⟩ := (S5.below HB5).P.f3; obtain ⟨Q0, Q1, Q2, Q3, Q4, Q5⟩ := (S5.below HB5).Q.f3; obtain ⟨_, eh, h0, h1, h2⟩ := (r0.below (S5.below HB5).B).fld HH.out; cases eh; obtain ⟨_, eg, g0, g1, g2⟩ := (s1.below (S5.below HB5).B).fld HG.out; cases eg; clear hS
        obtain ⟨N0, N1, N2, N3, N4, N5⟩ := (S5.below HB5).N.f3
        have hb6 := below_seq S.B (below_seq hb5 HB5)
        go_wp2
        refine bodyPost_ret (v := .tuple #[.agg #[.slice none 0 0, .slice none 0 0, .slice none 0 0], .int .i64 70]) (by simp [results, Try.results43, go_sem, *]; done) rfl ⟨none, 0, none, 0, none, 0, rfl, fun h => absurd rfl h, fun h => absurd rfl h, fun h => absurd rfl h, ?_⟩
        have HB := hb6
        (repeat (first | exact HB | refine Below.setCell ?_ (by dsimp only; omega) _ | refine Below.alloc ?_ (by have hs_ := HB.size; first | (simp; done) | (simp; omega) | omega) _ | apply Below.drew))
    · obtain rfl : k = bm := by omega
      have hpz := HPZ.out
      have hp2 := HP2.out
      obtain rfl : r = true := by rw [HRR.out]; exact decide_eq_true hall.out
      obtain ⟨C, cc, rfl, _, _, _⟩ := own_rd hown
      have RC := own_P (P := fun g => w.heap.size + 2 < g) hown (fun g hg => by have := own_base hown g hg; omega)
      have hc1 : (compT a b).o.length = ao := HAO.out
      have hc2 : (compT a b).n.length = bn := HBN.out
      have hc3 : (compT a b).m.length = k := by show (compM a b b.m.length).length = k; rw [compM_length]; exact HBM.out
      have C1 := Lib.hid hc1; have C2 := Lib.hid hc2; have C3 := Lib.hid hc3
      clear hc1 hc2 hc3 hown
      obtain ⟨k0, k1, k2, f0, f1, f2⟩ := PB.f3
      obtain ⟨N0, N1, N2, N3, N4, N5⟩ := S.N.f3
      obtain ⟨Q0, Q1, Q2, Q3, Q4, Q5⟩ := S.Q.f3
      go_wp2
      refine bodyPost_ret (v := .tuple #[.agg #[.slice X0 ao x0, .slice Z1 bn z1, .slice C k cc], .int .i64 0]) (by simp [results, Try.results43, go_sem, *]; done) rfl ?_
      show CoR (compT a b) 0 w _ _
      have hc1 := C1.out
      have hc2 := C2.out
      have hc3 := C3.out
      have hbF : Below w.heap.size w (((wr.setCell ⟨w.heap.size + 2, 0, none⟩ (.slice X0 ao x0)).setCell ⟨w.heap.size + 2, 1, none⟩ (.slice Z1 bn z1)).setCell ⟨w.heap.size + 2, 2, none⟩ (.slice C k cc)) := by
        have HB := S.B
        (repeat (first | exact HB | refine Below.setCell ?_ (by dsimp only; omega) _ | refine Below.alloc ?_ (by have hs_ := HB.size; first | (simp; done) | (simp; omega) | omega) _ | apply Below.drew))
      refine ⟨X0, x0, Z1, z1, C, cc, by rw [hc1, hc2, hc3], r0.below hbF, s1.below hbF, ?_, hbF⟩
      have := (RC.set3 _ (fun g hg => by have h := hg; show g ≠ w.heap.size + 2; omega) 0 1 2 (.slice X0 ao x0) (.slice Z1 bn z1) (.slice C k cc)).rd
      show Rd _ C (cellsM (compM a b b.m.length))
      rw [HBM.out]
      exact this
end Go.Proofs.Ytehcpjodkadfnaa
