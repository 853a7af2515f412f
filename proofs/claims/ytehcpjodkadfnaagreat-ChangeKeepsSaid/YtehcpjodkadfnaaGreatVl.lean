/- Merged out of: Se Ql Qm Rw. -/
import Derived.Test.YtehcpjodkadfnaaGreatVk
import Derived.Test.YtehcpjodkadfnaaGreatVi
import Derived.Test.YtehcpjodkadfnaaGreatUa
import Derived.WalkKit
import Derived.ProofKit
import Derived.OpenShut
import Derived.ShutString
import Derived.ChangeOld
import Derived.Below
import Derived.SizedLaws
import Derived.Lib.SmallJoins
import Derived.Laws.IdiomArrays
/- ChangeKeeps: what a table makes of an object: table.Apply, walked. -/
set_option linter.unusedSimpArgs false
set_option linter.unusedVariables false
set_option maxRecDepth 100000
namespace Go.Proofs.YtehcpjodkadfnaaGreat
open Go.RowKit Go.Lib

theorem Only.setU {u : Nat} {w W : World} (h : Only (some u) none w W) (j : Nat) (v : Value) : Only (some u) none w (W.setCell ⟨u, j, none⟩ v) :=
  ⟨h.os, h.tape, h.output, by have := h.size; simpa using this, fun k hk h2 h3 => (Below.heap_setCell _ _ _ _ (by intro e; exact h2 (by rw [e]))).trans (h.block k hk h2 h3)⟩
theorem two_new (w : World) (P Q : List Value) (T1 T2 : TypeId) : OBox ((w.alloc (.cells P.toArray T1)).alloc (.cells Q.toArray T2)).drew w.heap.size P T1 ∧ OBox ((w.alloc (.cells P.toArray T1)).alloc (.cells Q.toArray T2)).drew (w.heap.size + 1) Q T2 := by
  refine ⟨(OBox.new w P T1).below (Below.drew (below_new _)), ?_⟩
  have := OBox.new (w.alloc (.cells P.toArray T1)) Q T2
  rw [World.size_alloc] at this
  exact this
theorem VlBox {w : World} {b : Nat} {c : Vl} {T : TypeId} (h : OBox w b [.int .i64 c.k, .int .u64 c.b, .string c.t] T) : w.cell? ⟨b, 0, none⟩ = some (.int .i64 c.k) ∧ w.cell? ⟨b, 1, none⟩ = some (.int .u64 c.b) ∧ w.cell? ⟨b, 2, none⟩ = some (.string c.t) ∧ w.frozen? ⟨b, 0, none⟩ = false ∧ w.frozen? ⟨b, 1, none⟩ = false ∧ w.frozen? ⟨b, 2, none⟩ = false := ⟨h.cell rfl, h.cell rfl, h.cell rfl, h.frz 0, h.frz 1, h.frz 2⟩
set_option maxHeartbeats 4000000 in
theorem tApply_m (t : Tb) (O N M : Option Addr) (co cn cm no nn nm : Nat) (hno : t.o.length = no) (hnn : t.n.length = nn) (hnm : t.m.length = nm) (ht : rightT t = true) (hw : MvW t.m) (vs : List Vl) (hlen : no ≤ vs.length) (hv : FitV t.o vs) (b : List UInt8) (nb : Nat) (hb0 : b.length = nb) (hz0 : sizeF t.o = nb) (hg : ∀ (k : Nat) (f : Fd), t.o[k]? = some f → getE b t.o f.s = 0 ∧ ∀ v, vs[k]? = some v → getV b t.o f.s = v) (Ab : Option Addr) (cb : Nat) (hcb : nb ≤ cb) (z : Nat) (hz : sizeF t.n = z) (w : World) (r0 : Rd w O (cellsF t.o)) (r1 : Rd w N (cellsF t.n)) (r2 : Rd w M (cellsM t.m)) (hb : Rd w Ab (bytesV b)) :
    Calls Tryz.prog 10 #[.agg #[.slice O no co, .slice N nn cn, .slice M nm cm], .slice Ab nb cb] w fun e w' => ∃ B c', e = .returned (.tuple #[.slice B z c', .int .i64 0]) ∧ z ≤ c' ∧ Rd w' B (bytesV (outL t vs nn)) ∧ Below w.heap.size w w' := by
  have hr1 := (rightT_iff.1 ht).1
  obtain ⟨s0, s1, s2⟩ := rightT_16 ht
  rw [hno] at s0; rw [hnn] at s1; rw [hnm] at s2
  have hmn : nm = nn := by rw [← hnm, ← hnn]; exact (rightT_iff.1 ht).2.2.1
  have T := OBox.new w [.slice O no co, .slice N nn cn, .slice M nm cm] 36
  have HB := below_new (w := w) (.cells #[.slice O no co, .slice N nn cn, .slice M nm cm] 36)
  obtain ⟨T0, T1, T2, _, _, _⟩ := T.f3
  have HNO := Lib.hid hno; have HNN := Lib.hid hnn; have HNM := Lib.hid hnm; have HT := Lib.hid ht; have HW := Lib.hid hw; have HV := Lib.hid hv; have HB0 := Lib.hid hb0; have HZ0 := Lib.hid hz0; have HG := Lib.hid hg; have HZ := Lib.hid hz; have HR1 := Lib.hid hr1; have HMN := Lib.hid hmn; have HLEN := Lib.hid hlen
  clear hno hnn hnm ht hw hv hb0 hz0 hg hz hr1 hmn hlen
  go_enter Tryz.func10, Tryz.ntmps10
  go_upto_region 4 with (first
    | (go_at_call 24; refine (TRight_m t O N M co cn cm no nn nm HNO.out HNN.out HNM.out (by omega) (by omega) (by omega) HW.out _ (r0.below HB) (r1.below HB) (r2.below HB)).mono ?_; rintro e W1 ⟨rfl, hb1⟩; rw [HT.out]; replace HB := HB.trans (hb1.mono HB.size); replace T := T.below hb1; clear T0 T1 T2 hb1; obtain ⟨T0, T1, T2, _, _, _⟩ := T.f3)
    | (go_at_call 25; refine (Check_yes t.o no HNO.out (by omega) HR1.out O co b nb HB0.out HZ0.out Ab cb hcb (fun k f hf => (HG.out k f hf).1) _ (r0.below HB) (hb.below HB)).mono ?_; rintro e W2 ⟨rfl, hb1⟩; replace HB := HB.trans (hb1.mono HB.size); replace T := T.below hb1; clear T0 T1 T2 hb1; obtain ⟨T0, T1, T2, _, _, _⟩ := T.f3)
    | (go_at_call 26; refine (New_m N cn nn t.n HNN.out z HZ.out _ (r1.below HB) (by omega)).mono ?_; rintro e W3 ⟨B, c', rfl, hc', RB, hb1⟩; replace HB := HB.trans (hb1.mono HB.size); replace T := T.below hb1; clear T0 T1 T2 hb1; obtain ⟨T0, T1, T2, _, _, _⟩ := T.f3))
  go_wp2
  clear T0 T1 T2
  have TS := T
  have HBS := HB
  have RBS := RB
  clear T HB RB
  go_loopw [6, 7, 8, 9, 10, 11, 12, 29] (fun o _ _ _ _ _ _ i wr => ∃ (k : Nat) (B : Option Addr) (c' : Nat), k ≤ nm ∧ i = .int .i64 k ∧ o = .slice B z c' ∧ z ≤ c' ∧ Rd wr B (bytesV (outL t vs k)) ∧ OBox wr w.heap.size [.slice O no co, .slice N nn cn, .slice M nm cm] 36 ∧ Below w.heap.size w wr) (fun _ _ _ _ _ _ _ i _ => nm - (intOf i).toNat)
  case atStart => exact ⟨0, B, c', by omega, rfl, rfl, hc', by rw [outL, HZ.out]; exact RBS, TS, HBS⟩
  case round =>
    clear TS HBS RBS hc'
    obtain ⟨k, D, dc, hk1, rfl, rfl, hc', RB, T, HB⟩ := hrel
    by_cases hlt : k < nm
    · obtain ⟨x, hx⟩ : ∃ x, t.m[k]? = some x := ⟨_, List.getElem?_eq_getElem (by rw [HNM.out]; exact hlt)⟩
      obtain ⟨g, hg⟩ : ∃ y, t.n[k]? = some y := ⟨_, List.getElem?_eq_getElem (by rw [HNN.out, ← HMN.out]; exact hlt)⟩
      obtain ⟨y, hy⟩ : ∃ y, mvV t vs k = y := ⟨_, rfl⟩
      obtain ⟨hyr, y0, y1⟩ := mvV_ok HT.out HW.out (by rw [HNO.out]; exact HLEN.out) HV.out hg
      rw [hy] at hyr y0 y1
      have hl1 : (outL t vs k).length = z := by rw [← HZ.out]; exact outL_len HT.out HW.out (by rw [HNO.out]; exact HLEN.out) HV.out (by rw [HNN.out, ← HMN.out]; exact hk1)
      have hl2 : (outL t vs (k + 1)).length = z := by rw [← HZ.out]; exact outL_len HT.out HW.out (by rw [HNO.out]; exact HLEN.out) HV.out (by rw [HNN.out, ← HMN.out]; exact hlt)
      have hse : setE (outL t vs k) t.n g.s y = 0 := setE_right (rightT_iff.1 HT.out).2.1 (by rw [hl1, HZ.out]) hg hyr
      have hst : setB (outL t vs k) t.n g.s y = outL t vs (k + 1) := by rw [outL, hg, hy]
      have hj0 : (0 : Int) ≤ (k : Int) := by omega
      have hj1 : (k : Int) < (nm : Int) := by omega
      have hj2 : (k : Int) < (nn : Int) := by have := HMN.out; omega
      obtain ⟨md, em, _, _, _, _⟩ := r2.mv hx
      obtain ⟨gd, eg, _, _, _⟩ := r1.fld hg
      subst em eg
      have HX := Lib.hid hx; have HGK := Lib.hid hg; have HY := Lib.hid hy; have HL1 := Lib.hid hl1; have HL2 := Lib.hid hl2; have HSE := Lib.hid hse; have HST := Lib.hid hst
      have hall : ∀ W, Below wr.heap.size wr W → W.cell? ⟨w.heap.size, 2, none⟩ = some (.slice (some md) nm cm) ∧ W.cell? ⟨w.heap.size, 1, none⟩ = some (.slice (some gd) nn cn) ∧ W.cell? (md.add (k * 4)) = some (.int .i64 x.f) ∧ W.cell? ⟨(md.add (k * 4)).block, (md.add (k * 4)).off + (0 + 1), none⟩ = some (.int .i64 x.d.k) ∧ W.cell? ⟨(md.add (k * 4)).block, (md.add (k * 4)).off + (1 + 1), none⟩ = some (.int .u64 x.d.b) ∧ W.cell? ⟨(md.add (k * 4)).block, (md.add (k * 4)).off + (2 + 1), none⟩ = some (.string x.d.t) ∧ W.cell? (gd.add (k * 3)) = some (.string g.s) ∧ W.cell? ⟨(gd.add (k * 3)).block, (gd.add (k * 3)).off + (0 + 1), none⟩ = some (.int .i64 g.k) ∧ W.cell? ⟨(gd.add (k * 3)).block, (gd.add (k * 3)).off + (1 + 1), none⟩ = some (.int .i64 g.l) ∧ Below wr.heap.size wr W := fun W hbW => by
        obtain ⟨_, ea, c0, c1, c2, c3⟩ := ((r2.below HB).below hbW).mv hx
        cases ea
        obtain ⟨_, eb, g0, g1, g2⟩ := ((r1.below HB).below hbW).fld hg
        cases eb
        exact ⟨(T.below hbW).f3.2.2.1, (T.below hbW).f3.2.1, c0, c1, c2, c3, g0, g1, g2, hbW⟩
      clear hx hg hy hyr hl1 hl2 hse hst
      go_upto_region 7 with fail
      go_cut [8, 9] (fun s8 s9 wx => ∃ p q, s8 = .pointer (some ⟨p, 0, none⟩) ∧ s9 = .pointer (some ⟨q, 0, none⟩) ∧ OBox wx p [.int .i64 x.f, .int .i64 x.d.k, .int .u64 x.d.b, .string x.d.t] 61 ∧ OBox wx q [.string g.s, .int .i64 g.k, .int .i64 g.l] 29 ∧ Below wr.heap.size wr wx)
      case first =>
        go_region_held3 (fun W => W.cell? ⟨w.heap.size, 2, none⟩ = some (.slice (some md) nm cm) ∧ W.cell? ⟨w.heap.size, 1, none⟩ = some (.slice (some gd) nn cn) ∧ W.cell? (md.add (k * 4)) = some (.int .i64 x.f) ∧ W.cell? ⟨(md.add (k * 4)).block, (md.add (k * 4)).off + (0 + 1), none⟩ = some (.int .i64 x.d.k) ∧ W.cell? ⟨(md.add (k * 4)).block, (md.add (k * 4)).off + (1 + 1), none⟩ = some (.int .u64 x.d.b) ∧ W.cell? ⟨(md.add (k * 4)).block, (md.add (k * 4)).off + (2 + 1), none⟩ = some (.string x.d.t) ∧ W.cell? (gd.add (k * 3)) = some (.string g.s) ∧ W.cell? ⟨(gd.add (k * 3)).block, (gd.add (k * 3)).off + (0 + 1), none⟩ = some (.int .i64 g.k) ∧ W.cell? ⟨(gd.add (k * 3)).block, (gd.add (k * 3)).off + (1 + 1), none⟩ = some (.int .i64 g.l) ∧ Below wr.heap.size wr W) ((refine hall _ ?_; (repeat (first | assumption | exact Below.refl _ _ | refine Below.setCell ?_ (by dsimp only; first | exact Nat.le_refl _ | omega | (simp; done)) _ | refine Below.alloc ?_ (by first | exact Nat.le_refl _ | omega | (simp; done)) _ | apply Below.drew)))) (fail)
        all_goals (go_wp2_with fail; go_meet; refine ⟨_, _, rfl, rfl, ?_, ?_, ?_⟩)
        all_goals first
          | exact (two_new wr [.int .i64 x.f, .int .i64 x.d.k, .int .u64 x.d.b, .string x.d.t] [.string g.s, .int .i64 g.k, .int .i64 g.l] 61 29).1
          | exact (two_new wr [.int .i64 x.f, .int .i64 x.d.k, .int .u64 x.d.b, .string x.d.t] [.string g.s, .int .i64 g.k, .int .i64 g.l] 61 29).2
          | exact (two_new wr [.string g.s, .int .i64 g.k, .int .i64 g.l] [.int .i64 x.f, .int .i64 x.d.k, .int .u64 x.d.b, .string x.d.t] 29 61).1
          | exact (two_new wr [.string g.s, .int .i64 g.k, .int .i64 g.l] [.int .i64 x.f, .int .i64 x.d.k, .int .u64 x.d.b, .string x.d.t] 29 61).2
          | exact (below_seq (below_new _) (below_new _)).drew
      case rest =>
        obtain ⟨p, q, rfl, rfl, PB, QB, hb4⟩ := hcut
        clear hall
        rename World => W4
        obtain ⟨m0, m1, m2, m3, _, _, _, _⟩ := MBox4 PB
        have nb5 := below_new (w := W4) (.cells #[.int .i64 x.d.k, .int .u64 x.d.b, .string x.d.t] 33)
        have UB : OBox (W4.alloc (.cells #[.int .i64 x.d.k, .int .u64 x.d.b, .string x.d.t] 33)) W4.heap.size [.int .i64 x.d.k, .int .u64 x.d.b, .string x.d.t] 33 := OBox.new W4 _ _
        have hpu := PB.lt
        have hqu := QB.lt
        go_upto_region 9 with fail
        generalize W4.alloc (.cells #[.int .i64 x.d.k, .int .u64 x.d.b, .string x.d.t] 33) = W5 at *
        clear m0 m1 m2 m3
        replace PB := PB.below nb5
        replace QB := QB.below nb5
        have hb5 := below_seq hb4 nb5
        obtain ⟨u, hu⟩ : ∃ u, W4.heap.size = u := ⟨_, rfl⟩
        rw [hu] at UB hpu hqu ⊢
        have hu4 : wr.heap.size ≤ u := by rw [← hu]; exact hb4.size
        have hu5 : u < W5.heap.size := UB.lt
        clear hu hb4 nb5
        obtain ⟨m0, m1, m2, m3, _, _, _, _⟩ := MBox4 PB
        go_upto_if 46 with fail
        go_cut [11, 12] (fun _ _ wx => OBox wx u [.int .i64 y.k, .int .u64 y.b, .string y.t] 33 ∧ OBox wx q [.string g.s, .int .i64 g.k, .int .i64 g.l] 29 ∧ Below wr.heap.size wr wx)
        case first =>
          by_cases hxf : 0 ≤ x.f
          · have e1 : decide ((0 : Int) ≤ x.f) = true := by simpa using hxf
            have hkk : okAt t k = true := (rightT_iff.1 HT.out).2.2.2 k (List.getElem?_eq_some_iff.1 HX.out).1
            rw [okAt_mk HX.out HGK.out] at hkk
            obtain ⟨_, _, f, hof, _⟩ := okMv_pos (by omega) hkk
            have hlo : x.f.toNat < no := by rw [← HNO.out]; exact (List.getElem?_eq_some_iff.1 hof).1
            have hxl : x.f < (no : Int) := by omega
            obtain ⟨v, hvx⟩ : ∃ v, vs[x.f.toNat]? = some v := ⟨_, List.getElem?_eq_getElem (by have := HLEN.out; omega)⟩
            obtain ⟨_, vb0, vb1⟩ := HV.out _ f v hof hvx
            have hyc : castL v f g = y := by rw [← HY.out]; unfold mvV; rw [HX.out, HGK.out]; simp only; rw [if_pos hxf, hvx, hof]
            have hcv := castL_va v f g
            rw [hyc] at hcv
            obtain ⟨hge, hgv0⟩ := HG.out _ f hof
            have hgv := hgv0 v hvx
            obtain ⟨od, eo, _, _, _⟩ := r0.fld hof
            subst eo
            have HGE := Lib.hid hge; have HGV := Lib.hid hgv; have HCV := Lib.hid hcv; have HOF := Lib.hid hof
            clear hkk hvx hyc hcv hge hgv0 hgv hof
            go_upto_region 10 with fail
            have hall10 : ∀ W, Below W5.heap.size W5 W → W.cell? ⟨w.heap.size, 0, none⟩ = some (.slice (some od) no co) ∧ W.cell? ⟨p, 0, none⟩ = some (.int .i64 x.f) ∧ W.cell? (od.add (x.f.toNat * 3)) = some (.string f.s) ∧ Below W5.heap.size W5 W := fun W hbW => by
              have hbw := HB.trans ((below_seq hb5 hbW).mono HB.size)
              obtain ⟨_, ea, c0, _, _⟩ := (r0.below hbw).fld HOF.out
              cases ea
              exact ⟨(T.below (below_seq hb5 hbW)).f3.1, (PB.below hbW).cell rfl, c0, hbW⟩
            go_cut [11, 12] (fun s11 s12 wx => ∃ r e, s11 = .pointer (some ⟨r, 0, none⟩) ∧ s12 = .int .i64 e ∧ OBox wx r [.int .i64 v.k, .int .u64 v.b, .string v.t] 33 ∧ Below W5.heap.size W5 wx ∧ W5.heap.size ≤ r)
            case first =>
              go_region_held3 (fun W => W.cell? ⟨w.heap.size, 0, none⟩ = some (.slice (some od) no co) ∧ W.cell? ⟨p, 0, none⟩ = some (.int .i64 x.f) ∧ W.cell? (od.add (x.f.toNat * 3)) = some (.string f.s) ∧ Below W5.heap.size W5 W) ((refine hall10 _ ?_; (repeat (first | assumption | exact Below.refl _ _ | refine Below.setCell ?_ (by dsimp only; first | exact Nat.le_refl _ | omega | (simp; done)) _ | refine Below.alloc ?_ (by first | exact Nat.le_refl _ | omega | (simp; done)) _ | apply Below.drew))))
                (first
                  | (go_at_call 13; obtain ⟨_, _, _, HBx⟩ := ‹_ ∧ _ ∧ _ ∧ Below W5.heap.size W5 _›; have HBW := HB.trans ((below_seq hb5 HBx).mono HB.size); refine (Get_m Ab nb cb b HB0.out (some od) co no t.o HNO.out f.s v HGV.out 0 HGE.out _ (r0.below HBW) (by omega) (hb.below HBW) hcb).mono ?_; rintro e' W8 ⟨rfl, hb8⟩; have HB8 : Below W5.heap.size W5 W8 := below_seq HBx hb8; have hz8 := HB8.size; (first | (have RV := OBox.below (OBox.new _ [.int .i64 0, .int .u64 0, .string ⟨#[]⟩] 33) hb8) | (have RV := OBox.newB (cs := [.int .i64 0, .int .u64 0, .string ⟨#[]⟩]) hb8) | skip); (first | (obtain ⟨v0, v1, v2, v3, v4, v5⟩ := RV.f3) | skip)))
              all_goals (go_wp2_with fail; go_meet; refine ⟨_, _, rfl, rfl, ?_, ?_, ?_⟩)
              all_goals first
                | exact OBox.new _ _ _
                | (exact obox_set (obox_set (obox_set RV 0 _) 1 _) 2 _)
                | exact Nat.le_refl _
                | exact hz8
                | (repeat (first | assumption | exact Below.refl _ _ | refine Below.setCell ?_ (by dsimp only; first | exact Nat.le_refl _ | omega | (simp; done)) _ | refine Below.alloc ?_ (by first | exact Nat.le_refl _ | omega | (simp; done)) _ | apply Below.drew))
            case rest =>
              obtain ⟨r, e9, rfl, rfl, RV, hb6, hr⟩ := hcut
              clear hall10 m0 m1 m2 m3
              rename World => W6
              have P6 := PB.below hb6
              have Q6 := QB.below hb6
              have U6 := UB.below hb6
              have hb56 := below_seq hb5 hb6
              have T6 := T.below hb56
              have hz6 := hb56.size
              have hwz := T.lt
              have hall11 : ∀ W, Only (some u) none W6 W → W.cell? ⟨r, 0, none⟩ = some (.int .i64 v.k) ∧ W.cell? ⟨r, 1, none⟩ = some (.int .u64 v.b) ∧ W.cell? ⟨r, 2, none⟩ = some (.string v.t) ∧ W.cell? ⟨w.heap.size, 0, none⟩ = some (.slice (some od) no co) ∧ W.cell? ⟨p, 0, none⟩ = some (.int .i64 x.f) ∧ W.cell? (od.add (x.f.toNat * 3)) = some (.string f.s) ∧ W.cell? ⟨(od.add (x.f.toNat * 3)).block, (od.add (x.f.toNat * 3)).off + (0 + 1), none⟩ = some (.int .i64 f.k) ∧ W.cell? ⟨(od.add (x.f.toNat * 3)).block, (od.add (x.f.toNat * 3)).off + (1 + 1), none⟩ = some (.int .i64 f.l) ∧ W.cell? ⟨q, 0, none⟩ = some (.string g.s) ∧ W.cell? ⟨q, 1, none⟩ = some (.int .i64 g.k) ∧ W.cell? ⟨q, 2, none⟩ = some (.int .i64 g.l) ∧ Only (some u) none W6 W := fun W hO => by
                have hbW : Below wr.heap.size W6 W := hO.low hz6 (fun g hg => by cases hg; exact hu4) (fun g hg => by cases hg)
                have hbw := HB.trans ((hb56.trans hbW).mono HB.size)
                obtain ⟨_, ea, c0, c1, c2⟩ := (r0.below hbw).fld HOF.out
                cases ea
                obtain ⟨a0, a1, a2, _, _, _⟩ := VlBox (RV.only hO (by simp; omega) (by simp))
                obtain ⟨b0, b1, b2⟩ := FBox3 (Q6.only hO (by simp; omega) (by simp))
                exact ⟨a0, a1, a2, (T6.only hO (by simp; omega) (by simp)).f3.1, (P6.only hO (by simp; omega) (by simp)).cell rfl, c0, c1, c2, b0, b1, b2, hO⟩
              go_upto_region 11 with fail
              go_region_held3 (fun W => W.cell? ⟨r, 0, none⟩ = some (.int .i64 v.k) ∧ W.cell? ⟨r, 1, none⟩ = some (.int .u64 v.b) ∧ W.cell? ⟨r, 2, none⟩ = some (.string v.t) ∧ W.cell? ⟨w.heap.size, 0, none⟩ = some (.slice (some od) no co) ∧ W.cell? ⟨p, 0, none⟩ = some (.int .i64 x.f) ∧ W.cell? (od.add (x.f.toNat * 3)) = some (.string f.s) ∧ W.cell? ⟨(od.add (x.f.toNat * 3)).block, (od.add (x.f.toNat * 3)).off + (0 + 1), none⟩ = some (.int .i64 f.k) ∧ W.cell? ⟨(od.add (x.f.toNat * 3)).block, (od.add (x.f.toNat * 3)).off + (1 + 1), none⟩ = some (.int .i64 f.l) ∧ W.cell? ⟨q, 0, none⟩ = some (.string g.s) ∧ W.cell? ⟨q, 1, none⟩ = some (.int .i64 g.k) ∧ W.cell? ⟨q, 2, none⟩ = some (.int .i64 g.l) ∧ Only (some u) none W6 W) ((refine hall11 _ ?_; repeat (first | assumption | exact Only.of (Below.refl _ _).drew | refine Only.setU ?_ _ _)))
                (first
                  | (go_at_call 27; obtain ⟨_, _, _, _, _, _, _, _, _, _, _, HOx⟩ := ‹_ ∧ _ ∧ _ ∧ _ ∧ _ ∧ _ ∧ _ ∧ _ ∧ _ ∧ _ ∧ _ ∧ Only (some u) none W6 _›; refine (Cast_is v.k v.b v.t f.s g.s f.k f.l g.k g.l vb0 vb1 _ _ HCV.out rfl _).mono ?_; rintro e' W8 ⟨rfl, hb8⟩; have HO8 : Only (some u) none W6 W8 := Only.seq HOx hb8; have U8 := OBox.below U6 (Below.undrewS hb8); obtain ⟨u0, u1, u2, u3, u4, u5⟩ := VlBox U8))
              all_goals
                have U9 : OBox _ u [.int .i64 y.k, .int .u64 y.b, .string y.t] 33 := obox_set (obox_set (obox_set U8 0 (.int .i64 y.k)) 1 (.int .u64 y.b)) 2 (.string y.t)
                have HO9 := ((HO8.setU 0 (.int .i64 y.k)).setU 1 (.int .u64 y.b)).setU 2 (.string y.t)
                have Q9 := Q6.only HO9 (by simp; omega) (by simp)
                have hb9 := hb56.trans (HO9.low hz6 (fun g hg => by cases hg; exact hu4) (fun g hg => by cases hg))
                go_wp2_with fail
                go_meet
                exact ⟨U9, Q9, hb9⟩
          · have e1 : decide ((0 : Int) ≤ x.f) = false := by simpa using hxf
            obtain rfl : x.d = y := by rw [← HY.out]; unfold mvV; rw [HX.out, HGK.out]; simp only; rw [if_neg hxf]
            go_wp2_with fail
            go_meet
            exact ⟨UB, QB, hb5⟩
        case rest =>
          obtain ⟨YB, QB9, hb9⟩ := hcut
          clear m0 m1 m2 m3 UB PB QB hb5
          rename World => W9
          obtain ⟨v0, v1, v2, _, _, _⟩ := VlBox YB
          obtain ⟨g0, g1, g2⟩ := FBox3 QB9
          have T9 := T.below hb9
          have HB9 := HB.trans (hb9.mono HB.size)
          have RB9 := RB.below hb9
          obtain ⟨T0, T1, T2, _, _, _⟩ := T9.f3
          go_wp2_with (go_at_call 28; refine (Set_m D z dc (outL t vs k) HL1.out (some gd) cn nn t.n HNN.out g.s y.k y.b y.t y0 y1 (outL t vs (k + 1)) HST.out z HL2.out 0 HSE.out _ (r1.below HB9) (by omega) RB9).mono ?_)
          rintro e W10 ⟨B2, c2, rfl, hc2, R2, hbS⟩
          have HB10 := HB9.trans (hbS.mono HB9.size)
          have T10 := T9.below hbS
          go_wp2
          go_roundw
          case rel => exact ⟨k + 1, B2, c2, by omega, by go_num, rfl, hc2, R2, T10, HB10⟩
          case measure => simp [intOf]; omega
    · obtain rfl : k = nm := by omega
      have hkn := HMN.out
      subst hkn
      go_wp2
      refine bodyPost_ret (v := .tuple #[.slice D z dc, .int .i64 0]) (by simp [results, Tryz.results10, go_sem, *]; done) rfl ⟨D, dc, rfl, hc', RB, HB⟩
end Go.Proofs.YtehcpjodkadfnaaGreat
/- Layer 8 of the heap, changes: many, one behind the other, as the document makes them: walked. -/
set_option linter.unusedSimpArgs false
set_option linter.unusedVariables false
set_option maxRecDepth 100000
namespace Go.Proofs.YtehcpjodkadfnaaGreat
open Go.RowKit Go.Lib

end Go.Proofs.YtehcpjodkadfnaaGreat
/- Layer 8's laws: the program's changes of the document's. -/
set_option linter.unusedSimpArgs false
set_option linter.unusedVariables false
set_option maxRecDepth 100000
namespace Go.Proofs.YtehcpjodkadfnaaGreat
open Go.RowKit Go.Lib

theorem infoCh : (Tryz.prog.info? 57).map (fun i => (i.zero, i.size, i.bytes)) = some (some (.agg #[.int .i64 0, .string ⟨#[]⟩, .string ⟨#[]⟩, .int .i64 0, .int .i64 0, .int .i64 0, .int .u64 0, .string ⟨#[]⟩, .slice none 0 0]), 9, 112) := by kernel_rfl
theorem newsL (w : World) (cs : List Value) (T : TypeId) (hn : cs ≠ []) : ∀ j x, cs[j]? = some x → (w.alloc (.cells cs.toArray T)).cell? ((⟨w.heap.size, 0, none⟩ : Addr).add j) = some x := by
  intro j x hj
  obtain ⟨ad, e, h⟩ := rd_new w cs T hn
  cases e
  exact h j x hj
theorem takeC {cs : List (Ch × Value)} {k : Nat} {p : Ch × Value} (h : cs[k]? = some p) : cellsC (cs.take (k + 1)) = cellsC (cs.take k) ++ chL p.1 p.2 := by
  rw [List.take_add_one, h]
  simp [cellsC]
set_option maxHeartbeats 4000000 in
theorem own_m (K : Option Addr) (cK nc : Nat) (cs : List (Ch × Value)) (hnc : cs.length = nc) (hk : nc ≤ 1000) (w : World) (hK : Rd w K (cellsC cs)) (ho : ∀ p ∈ cs, ChO w p) :
    Calls Tryz.prog 9 #[.slice K nc cK] w fun e w' => ∃ B d, e = .returned (.slice B nc d) ∧ Rd w' B (cellsC cs) ∧ Below w.heap.size w w' := by
  obtain ⟨i0, hi, hz0, hz1, hz2⟩ := info_parts infoCh
  have HNC := Lib.hid hnc; have HO := Lib.hid ho
  clear hnc ho
  go_enter Tryz.func9, Tryz.ntmps9
  go_wp2
  go_loopw [3, 5, 8] (fun v _ i wr => ∃ (k : Nat), k ≤ nc ∧ i = .int .i64 k ∧ wr.ownsRow w.heap.size 57 9 v k (cellsC (cs.take k)) ∧ Below w.heap.size w wr) (fun _ _ i _ => nc - (intOf i).toNat)
  case atStart => exact ⟨0, by omega, rfl, own_nil _ _ _ _, Below.refl _ _⟩
  case round =>
    obtain ⟨k, hk1, rfl, hown, HB⟩ := hrel
    by_cases hlt : k < nc
    · obtain ⟨⟨c, pv⟩, hp⟩ : ∃ x, cs[k]? = some x := ⟨_, List.getElem?_eq_getElem (by rw [HNC.out]; exact hlt)⟩
      obtain ⟨Q, qc, ev⟩ : ∃ Q qc, pv = .slice Q c.q.length qc := by
        obtain ⟨Q, qc, h1, _⟩ := HO.out _ (List.mem_of_getElem? hp)
        exact ⟨Q, qc, h1⟩
      subst ev
      obtain ⟨n, hn⟩ : ∃ n, c.q.length = n := ⟨_, rfl⟩
      rw [hn] at hp
      have hs : cellsC (cs.take (k + 1)) = cellsC (cs.take k) ++ [.int .i64 c.op, .string c.s, .string c.g.s, .int .i64 c.g.k, .int .i64 c.g.l, .int .i64 c.d.k, .int .u64 c.d.b, .string c.d.t, .slice Q n qc] := takeC hp
      have HS := Lib.hid hs
      have hj0 : (0 : Int) ≤ (k : Int) := by omega
      have hj1 : (k : Int) < (nc : Int) := by omega
      obtain ⟨ad, e, c0, c1, c2, c3, c4, c5, c6, c7, c8⟩ := (hK.below HB).ch hp
      subst e
      dsimp only at c0 c1 c2 c3 c4 c5 c6 c7 c8
      have nb := below_new (w := wr) (.cells #[.int .i64 c.op, .string c.s, .string c.g.s, .int .i64 c.g.k, .int .i64 c.g.l, .int .i64 c.d.k, .int .u64 c.d.b, .string c.d.t, .slice Q n qc] 52)
      have C : CBox (wr.alloc (.cells #[.int .i64 c.op, .string c.s, .string c.g.s, .int .i64 c.g.k, .int .i64 c.g.l, .int .i64 c.d.k, .int .u64 c.d.b, .string c.d.t, .slice Q n qc] 52)) wr.heap.size c (.slice Q n qc) 52 := OBox.new wr (chL c (.slice Q n qc)) 52
      have hown4 := hown.alloc (.cells #[.int .i64 c.op, .string c.s, .string c.g.s, .int .i64 c.g.k, .int .i64 c.g.l, .int .i64 c.d.k, .int .u64 c.d.b, .string c.d.t, .slice Q n qc] 52)
      clear hp hs hn
      go_upto_region 5 with fail
      generalize wr.alloc (.cells #[.int .i64 c.op, .string c.s, .string c.g.s, .int .i64 c.g.k, .int .i64 c.g.l, .int .i64 c.d.k, .int .u64 c.d.b, .string c.d.t, .slice Q n qc] 52) = W4 at *
      clear c0 c1 c2 c3 c4 c5 c6 c7 c8
      have HB4 := HB.trans (nb.mono HB.size)
      obtain ⟨a0, a1, a2, a3, a4, a5, a6, a7, a8⟩ := C.c9
      obtain ⟨V, vc, rfl, _, _, _⟩ := own_rd hown4
      have hz4 := HB4.size
      go_wp2_with (at_builtin; refine wpList_append_own _ rfl _ _ 40 rfl w.heap.size 57 i0 (.agg #[.int .i64 0, .string ⟨#[]⟩, .string ⟨#[]⟩, .int .i64 0, .int .i64 0, .int .i64 0, .int .u64 0, .string ⟨#[]⟩, .slice none 0 0]) 9 112 Tryz.underlying40 hi hz0 hz1 hz2 rfl (by decide) _ _ _ rfl (hown4.alloc _) ⟨W4.heap.size, 0, none⟩ 1 1 [.int .i64 c.op, .string c.s, .string c.g.s, .int .i64 c.g.k, .int .i64 c.g.l, .int .i64 c.d.k, .int .u64 c.d.b, .string c.d.t, .slice Q n qc] rfl rfl ?c1 ?c2 ?c3 ?c4 ?c5 ?_)
      case c1 => exact newsL _ _ _ (by simp)
      case c2 => intro u hu; simp at hu; rcases hu with rfl | rfl | rfl | rfl | rfl | rfl | rfl | rfl | rfl <;> rfl
      case c3 => simp only [maxLen]; omega
      case c4 => omega
      case c5 => simp <;> omega
      intro v' w3 hown' hgrow _
      have BG : Below w.heap.size W4 w3 := ((Below.refl _ _).alloc (by omega) (.cells #[.int .i64 c.op, .string c.s, .string c.g.s, .int .i64 c.g.k, .int .i64 c.g.l, .int .i64 c.d.k, .int .u64 c.d.b, .string c.d.t, .slice Q n qc] 57)).grown hgrow (by simp <;> omega) (fun q hq => own_base hown4 q hq)
      have hown3 : w3.ownsRow w.heap.size 57 9 v' (k + 1) (cellsC (cs.take (k + 1))) := own_eq hown' (by simp) (by rw [HS.out])
      obtain ⟨B', c', rfl, _, _, _⟩ := own_rd hown3
      have HB3 := HB4.trans BG
      clear hown' hgrow hown hown4 a0 a1 a2 a3 a4 a5 a6 a7 a8 nb C
      go_wp2
      go_roundw
      case rel => exact ⟨k + 1, by omega, by go_num, hown3, HB3⟩
      case measure => simp [intOf]; omega
    · obtain rfl : k = nc := by omega
      have hall : cs.take k = cs := List.take_of_length_le (by rw [HNC.out]; exact Nat.le_refl _)
      rw [hall] at hown
      obtain ⟨B', c', rfl, _, _, r⟩ := own_rd hown
      go_wp2
      go_ret
      exact ⟨B', c', rfl, r, HB⟩
end Go.Proofs.YtehcpjodkadfnaaGreat
/- Arguments of laws, opened and shut: values, fields, pairs of numbers, rows of bytes. -/
set_option linter.unusedSimpArgs false
set_option linter.unusedVariables false
set_option maxRecDepth 100000
namespace Go.Proofs.YtehcpjodkadfnaaGreat
open Go.ChangeShapes Go.WideShapes Go.ChangeAt Go.RowKit Go.Joins
open Go.ChangeMaps (open_string shut_string)

section
variable {H : Type} {enc : TypeId × Value → H} {w : World} {base b0 : Nat} {r : Reach} {spare : Nat → Bool} {held : Bool} {v : Value} {d : DataW H} {p : List MemPlace}

theorem wf_i64 {n : Int} (h : (Lit.int .i64 n).wf = true) : -9223372036854775808 ≤ n ∧ n ≤ 9223372036854775807 := by
  have := bounds_i64 h
  omega
theorem wf_u64 {n : Int} (h : (Lit.int .u64 n).wf = true) : 0 ≤ n ∧ n < 18446744073709551616 := by
  have := bounds_u64 h
  omega
theorem wf_u8 {n : Int} (h : (Lit.int .u8 n).wf = true) : 0 ≤ n ∧ n < 256 := by
  have := bounds_u8 h
  omega

/-- An api.Value. -/
theorem open_val (hv : Value.okWide Tryz.prog w r b0 33 v) (h : DataW.Trod enc Tryz.prog w base spare held 33 v d p) :
    ∃ k x s, v = .agg #[.int .i64 k, .int .u64 x, .string s] ∧ (-9223372036854775808 ≤ k ∧ k ≤ 9223372036854775807) ∧ (0 ≤ x ∧ x < 18446744073709551616) ∧ s.size ≤ maxLen ∧
      ∀ (w' : World) (base' : Nat) (spare' : Nat → Bool) (held' : Bool), DataW.Trod enc Tryz.prog w' base' spare' held' 33 v d p := by
  obtain ⟨c0, c1, c2, y0, y1, y2, m, rfl, rfl, rfl, h0, h1, h2⟩ := open_agg3 Tryz.underlying33 (by kernel_rfl) (by kernel_rfl) hv h
  obtain ⟨k, e0, rfl, w0⟩ := DataW.trod_int Tryz.underlying3 h0
  obtain ⟨x, e1, rfl, w1⟩ := DataW.trod_int Tryz.underlying31 h1
  obtain ⟨s, e2, rfl, w2⟩ := DataW.trod_string Tryz.underlying9 h2
  simp at e0 e1 e2
  subst e0 e1 e2
  refine ⟨k, x, s, rfl, wf_i64 w0, wf_u64 w1, w2, fun w' base' spare' held' => ?_⟩
  exact shut_agg3 (y0 := (.lit (.int .i64 k), [])) (y1 := (.lit (.int .u64 x), [])) (y2 := (.lit (.string s.data.toList), [])) Tryz.underlying33 (by kernel_rfl) (by kernel_rfl)
    ⟨1, by simp [DataW.trod, Tryz.underlying3, w0]⟩ ⟨1, by simp [DataW.trod, Tryz.underlying31, w1]⟩ (Go.Deep.shut_string_cell Tryz.underlying9 w2)
/-- An api.Field. -/
theorem open_fld (hv : Value.okWide Tryz.prog w r b0 29 v) (h : DataW.Trod enc Tryz.prog w base spare held 29 v d p) :
    ∃ s k l, v = .agg #[.string s, .int .i64 k, .int .i64 l] ∧ (-9223372036854775808 ≤ k ∧ k ≤ 9223372036854775807) ∧ (-9223372036854775808 ≤ l ∧ l ≤ 9223372036854775807) ∧ s.size ≤ maxLen ∧
      ∀ (w' : World) (base' : Nat) (spare' : Nat → Bool) (held' : Bool), DataW.Trod enc Tryz.prog w' base' spare' held' 29 v d p := by
  obtain ⟨c0, c1, c2, y0, y1, y2, m, rfl, rfl, rfl, h0, h1, h2⟩ := open_agg3 Tryz.underlying29 (by kernel_rfl) (by kernel_rfl) hv h
  obtain ⟨s, e0, rfl, w0⟩ := DataW.trod_string Tryz.underlying9 h0
  obtain ⟨k, e1, rfl, w1⟩ := DataW.trod_int Tryz.underlying3 h1
  obtain ⟨l, e2, rfl, w2⟩ := DataW.trod_int Tryz.underlying3 h2
  simp at e0 e1 e2
  subst e0 e1 e2
  refine ⟨s, k, l, rfl, wf_i64 w1, wf_i64 w2, w0, fun w' base' spare' held' => ?_⟩
  exact shut_agg3 (y0 := (.lit (.string s.data.toList), [])) (y1 := (.lit (.int .i64 k), [])) (y2 := (.lit (.int .i64 l), [])) Tryz.underlying29 (by kernel_rfl) (by kernel_rfl)
    (Go.Deep.shut_string_cell Tryz.underlying9 w0) ⟨1, by simp [DataW.trod, Tryz.underlying3, w1]⟩ ⟨1, by simp [DataW.trod, Tryz.underlying3, w2]⟩
/-- A row of bytes. -/
theorem open_bytes (hv : Value.okWide Tryz.prog w r b0 42 v) (h : DataW.Trod enc Tryz.prog w base spare held 42 v d p) :
    ∃ A c l, v = .slice A l.length c ∧ l.length ≤ c ∧ c ≤ maxLen ∧ Rd w A (bytesV l) := by
  obtain ⟨a, len, cap, rfl⟩ := okWide_slice Tryz.underlying42 hv
  obtain ⟨fuel, hf⟩ := h
  rcases open_ints Tryz.underlying42 Tryz.underlying5 (by kernel_rfl) hf with ⟨hcs, _⟩ | ⟨x, l, c, zs, hcs, _, hl, hm, hz, _, hcell, hwz⟩
  · simp [Value.cells] at hcs
    obtain ⟨rfl, rfl, rfl⟩ := hcs
    exact ⟨none, 0, [], rfl, Nat.le_refl _, Nat.zero_le _, Rd.nil _ _⟩
  · simp [Value.cells] at hcs
    obtain ⟨rfl, rfl, rfl⟩ := hcs
    have hzl : len ≤ zs.length := by rw [hz]; split <;> omega
    have hlen : ((zs.take len).map fun z => UInt8.ofNat z.toNat).length = len := by rw [List.length_map, List.length_take]; omega
    refine ⟨some x, cap, (zs.take len).map fun z => UInt8.ofNat z.toNat, by rw [hlen], by rw [hlen]; exact hl, hm, fun _ => ⟨x, rfl, fun j u hj => ?_⟩⟩
    have hjl : j < len := by
      rcases Nat.lt_or_ge j len with h' | h'
      · exact h'
      · rw [List.getElem?_eq_none (by rw [bytesV_length, hlen]; exact h')] at hj; cases hj
    have hjz : j < zs.length := by omega
    have hb := wf_u8 (hwz _ (List.getElem_mem hjz))
    rw [hcell j hjz]
    rw [bytesV_get (by rw [hlen]; exact hjl)] at hj
    rw [← Option.some.inj hj]
    simp [List.getD_eq_getElem?_getD, List.getElem?_eq_getElem hjz]
    omega
end
end Go.Proofs.YtehcpjodkadfnaaGreat
