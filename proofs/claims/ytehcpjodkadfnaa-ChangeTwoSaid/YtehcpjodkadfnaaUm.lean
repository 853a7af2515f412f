/- Merged out of: Mb Mc Md. -/
import Derived.Test.YtehcpjodkadfnaaUl
import Derived.Laws.CopyOwn
/- Layers 7 and 8 of the heap, tables, second part: whether two tables are alike. -/
set_option linter.unusedSimpArgs false
set_option linter.unusedVariables false
set_option maxRecDepth 100000
namespace Go.Proofs.Ytehcpjodkadfnaa
open Go.RowKit

def TBox (w : World) (b : Nat) (x y z : Value) : Prop := w.cell? ⟨b, 0, none⟩ = some x ∧ w.cell? ⟨b, 1, none⟩ = some y ∧ w.cell? ⟨b, 2, none⟩ = some z
theorem TBox.below {w w1 : World} {b : Nat} {x y z : Value} (h : TBox w b x y z) (hb : Below w.heap.size w w1) : TBox w1 b x y z := ⟨cell_below (B := 0) hb h.1, cell_below (B := 0) hb h.2.1, cell_below (B := 0) hb h.2.2⟩
theorem TBox.new (w : World) (x y z : Value) (T : TypeId) : TBox (w.alloc (.cells #[x, y, z] T)) w.heap.size x y z := ⟨cell_new _ _ _ _ _ rfl, cell_new _ _ _ _ _ rfl, cell_new _ _ _ _ _ rfl⟩
theorem mv_ways (x y : Mv) : (¬ x = y ∧ (¬ x.f = y.f ∨ (x.f = y.f ∧ ¬ x.d.k = y.d.k) ∨ (x.f = y.f ∧ x.d.k = y.d.k ∧ ¬ x.d.b = y.d.b) ∨ (x.f = y.f ∧ x.d.k = y.d.k ∧ x.d.b = y.d.b ∧ ¬ x.d.t.toList = y.d.t.toList))) ∨ (x = y ∧ x.f = y.f ∧ x.d.k = y.d.k ∧ x.d.b = y.d.b ∧ x.d.t.toList = y.d.t.toList) := by
  simp only [toList_iff]
  have e : x = y ↔ x.f = y.f ∧ x.d.k = y.d.k ∧ x.d.b = y.d.b ∧ x.d.t = y.d.t := by
    obtain ⟨f, k, b, t⟩ := x; obtain ⟨f', k', b', t'⟩ := y; simp
  rw [e]
  by_cases h1 : x.f = y.f <;> by_cases h2 : x.d.k = y.d.k <;> by_cases h3 : x.d.b = y.d.b <;> by_cases h4 : x.d.t = y.d.t <;> simp [h1, h2, h3, h4]
set_option maxHeartbeats 4000000 in
theorem Equal_m (a b : Tb) (Ao An Am Bo Bn Bm : Option Addr) (co cn cm eo en em no nn nm qo qn qm : Nat) (hno : a.o.length = no) (hnn : a.n.length = nn) (hnm : a.m.length = nm) (hqo : b.o.length = qo) (hqn : b.n.length = qn) (hqm : b.m.length = qm)
    (l0 : no ≤ 9223372036854775807) (l1 : nn ≤ 9223372036854775807) (l2 : nm ≤ 9223372036854775807) (m0 : qo ≤ 9223372036854775807) (m1 : qn ≤ 9223372036854775807) (m2 : qm ≤ 9223372036854775807)
    (w : World) (ao : Rd w Ao (cellsF a.o)) (an : Rd w An (cellsF a.n)) (am : Rd w Am (cellsM a.m)) (bo : Rd w Bo (cellsF b.o)) (bn : Rd w Bn (cellsF b.n)) (bm : Rd w Bm (cellsM b.m)) :
    Calls Try.prog 13 #[.agg #[.slice Ao no co, .slice An nn cn, .slice Am nm cm], .agg #[.slice Bo qo eo, .slice Bn qn en, .slice Bm qm em]] w fun e w' => e = .returned (.bool (sameT a b)) ∧ Below w.heap.size w w' := by
  obtain ⟨r, hr⟩ : ∃ r, sameT a b = r := ⟨_, rfl⟩
  obtain ⟨r1, hr1⟩ : ∃ r, sameFB a.o b.o = r := ⟨_, rfl⟩
  obtain ⟨r2, hr2⟩ : ∃ r, sameFB a.n b.n = r := ⟨_, rfl⟩
  have hrr : r = (r1 && r2 && decide (a.m = b.m)) := by rw [← hr, ← hr1, ← hr2]; simp [sameT, sameFB]
  rw [hr]
  have hb1 := below_new (w := w) (.cells #[.slice Ao no co, .slice An nn cn, .slice Am nm cm] 43)
  have hb2 := below_new (w := w.alloc (.cells #[.slice Ao no co, .slice An nn cn, .slice Am nm cm] 43)) (.cells #[.slice Bo qo eo, .slice Bn qn en, .slice Bm qm em] 43)
  have O1 := (TBox.new w (.slice Ao no co) (.slice An nn cn) (.slice Am nm cm) 43).below hb2
  have O2 := TBox.new (w.alloc (.cells #[.slice Ao no co, .slice An nn cn, .slice Am nm cm] 43)) (.slice Bo qo eo) (.slice Bn qn en) (.slice Bm qm em) 43
  rw [World.size_alloc] at O2
  have HB := below_seq hb1 hb2
  replace ao := (ao.below hb1).below hb2
  replace an := (an.below hb1).below hb2
  replace am := (am.below hb1).below hb2
  replace bo := (bo.below hb1).below hb2
  replace bn := (bn.below hb1).below hb2
  replace bm := (bm.below hb1).below hb2
  obtain ⟨O10, O11, O12⟩ := id O1
  obtain ⟨O20, O21, O22⟩ := id O2
  have HR1 := Lib.hid hr1
  have HR2 := Lib.hid hr2
  have HRR := Lib.hid hrr
  have HNO := Lib.hid hno
  have HNN := Lib.hid hnn
  have HNM := Lib.hid hnm
  have HQO := Lib.hid hqo
  have HQN := Lib.hid hqn
  have HQM := Lib.hid hqm
  have tok1 := True.intro
  clear hr hr1 hr2 hrr hno hnn hnm hqo hqn hqm hb1 hb2
  cases r1
  · obtain rfl : r = false := by rw [HRR.out]; rfl
    go_enter Try.func13, Try.ntmps13
    go_wp2_with (go_at_call 15; refine (Same6_m Ao Bo co eo no qo a.o b.o HNO.out HQO.out false HR1.out _ ao bo l0 m0).mono ?_; rintro e wM ⟨rfl, hb⟩; replace HB := HB.trans (hb.mono HB.size); replace an := an.below hb; replace bn := bn.below hb; replace am := am.below hb; replace bm := bm.below hb; replace O1 := O1.below hb; obtain ⟨O10, O11, O12⟩ := id O1; replace O2 := O2.below hb; obtain ⟨O20, O21, O22⟩ := id O2; clear hb)
    go_ret
    exact ⟨rfl, HB⟩
  cases r2
  · obtain rfl : r = false := by rw [HRR.out]; rfl
    go_enter Try.func13, Try.ntmps13
    go_wp2_with (first
      | (have _t := tok1; go_at_call 15; refine (Same6_m Ao Bo co eo no qo a.o b.o HNO.out HQO.out true HR1.out _ ao bo l0 m0).mono ?_; rintro e wM ⟨rfl, hb⟩; replace HB := HB.trans (hb.mono HB.size); replace an := an.below hb; replace bn := bn.below hb; replace am := am.below hb; replace bm := bm.below hb; replace O1 := O1.below hb; obtain ⟨O10, O11, O12⟩ := id O1; replace O2 := O2.below hb; obtain ⟨O20, O21, O22⟩ := id O2; clear hb tok1; have tok2 := True.intro)
      | (have _t := tok2; go_at_call 15; refine (Same6_m An Bn cn en nn qn a.n b.n HNN.out HQN.out false HR2.out _ an bn l1 m1).mono ?_; rintro e wM ⟨rfl, hb⟩; replace HB := HB.trans (hb.mono HB.size); replace am := am.below hb; replace bm := bm.below hb; replace O1 := O1.below hb; obtain ⟨O10, O11, O12⟩ := id O1; replace O2 := O2.below hb; obtain ⟨O20, O21, O22⟩ := id O2; clear hb tok2; have tok3 := True.intro))
    go_ret
    exact ⟨rfl, HB⟩
  by_cases hlen : nm = qm
  · have hz : ((nm : Int) != (qm : Int)) = false := by rw [hlen]; simp
    have HL := Lib.hid hlen
    clear hlen
    go_enter Try.func13, Try.ntmps13
    go_wp2_with (first
      | (have _t := tok1; go_at_call 15; refine (Same6_m Ao Bo co eo no qo a.o b.o HNO.out HQO.out true HR1.out _ ao bo l0 m0).mono ?_; rintro e wM ⟨rfl, hb⟩; replace HB := HB.trans (hb.mono HB.size); replace an := an.below hb; replace bn := bn.below hb; replace am := am.below hb; replace bm := bm.below hb; replace O1 := O1.below hb; obtain ⟨O10, O11, O12⟩ := id O1; replace O2 := O2.below hb; obtain ⟨O20, O21, O22⟩ := id O2; clear hb tok1; have tok2 := True.intro)
      | (have _t := tok2; go_at_call 15; refine (Same6_m An Bn cn en nn qn a.n b.n HNN.out HQN.out true HR2.out _ an bn l1 m1).mono ?_; rintro e wM ⟨rfl, hb⟩; replace HB := HB.trans (hb.mono HB.size); replace am := am.below hb; replace bm := bm.below hb; replace O1 := O1.below hb; obtain ⟨O10, O11, O12⟩ := id O1; replace O2 := O2.below hb; obtain ⟨O20, O21, O22⟩ := id O2; clear hb tok2; have tok3 := True.intro))
    rename World => W1
    have am0 := am
    have bm0 := bm
    have O1' := O1
    have O2' := O2
    have HB0 := HB
    clear am bm O1 O2 HB
    go_loopw [5] (fun i wr => ∃ k : Nat, k ≤ nm ∧ i = .int .i64 k ∧ Below w.heap.size w wr ∧ Rd wr Am (cellsM a.m) ∧ Rd wr Bm (cellsM b.m) ∧ TBox wr w.heap.size (.slice Ao no co) (.slice An nn cn) (.slice Am nm cm) ∧ TBox wr (w.heap.size + 1) (.slice Bo qo eo) (.slice Bn qn en) (.slice Bm qm em) ∧ Hid (a.m.take k = b.m.take k)) (fun i _ => nm - (intOf i).toNat)
    case atStart => exact ⟨0, by omega, rfl, HB0, am0, bm0, O1', O2', Lib.hid rfl⟩
    case round =>
      obtain ⟨k, hk, rfl, HB, am, bm, O1, O2, hall⟩ := hrel
      clear HB0 am0 bm0 O1' O2' O10 O11 O12 O20 O21 O22
      obtain ⟨O10, O11, O12⟩ := id O1
      obtain ⟨O20, O21, O22⟩ := id O2
      by_cases hlt : k < nm
      · obtain ⟨x, hx⟩ : ∃ x, a.m[k]? = some x := ⟨_, List.getElem?_eq_getElem (by rw [HNM.out]; exact hlt)⟩
        have hlq : k < qm := by have := HL.out; omega
        obtain ⟨y, hy⟩ : ∃ y, b.m[k]? = some y := ⟨_, List.getElem?_eq_getElem (by rw [HQM.out]; exact hlq)⟩
        obtain ⟨ad, rfl, c0, c1, c2, c3⟩ := am.mv hx
        obtain ⟨bd, rfl, d0, d1, d2, d3⟩ := bm.mv hy
        have HX := Lib.hid hx
        have HY := Lib.hid hy
        clear hx hy
        have hi0 : (0 : Int) ≤ (k : Int) := by omega
        have hi1 : (k : Int) < (nm : Int) := by omega
        have hi2 : (k : Int) < (qm : Int) := by omega
        go_upto_region 6 with fail
        rcases mv_ways x y with ⟨hne, hw⟩ | ⟨he, h1, h2, h3, h4⟩
        · obtain rfl : r = false := by
            rw [HRR.out]; simp; intro e
            have h1 := HX.out; rw [e, HY.out] at h1; exact hne (Option.some.inj h1).symm
          clear hne hall am bm
          refine RW.start (fun w' => Below w.heap.size w w' ∧ (w'.cell? (ad.add (k * 4)) = some (.int .i64 x.f) ∧ w'.cell? ⟨(ad.add (k * 4)).block, (ad.add (k * 4)).off + (0 + 1), none⟩ = some (.int .i64 x.d.k) ∧ w'.cell? ⟨(ad.add (k * 4)).block, (ad.add (k * 4)).off + (1 + 1), none⟩ = some (.int .u64 x.d.b) ∧ w'.cell? ⟨(ad.add (k * 4)).block, (ad.add (k * 4)).off + (2 + 1), none⟩ = some (.string x.d.t)) ∧ (w'.cell? (bd.add (k * 4)) = some (.int .i64 y.f) ∧ w'.cell? ⟨(bd.add (k * 4)).block, (bd.add (k * 4)).off + (0 + 1), none⟩ = some (.int .i64 y.d.k) ∧ w'.cell? ⟨(bd.add (k * 4)).block, (bd.add (k * 4)).off + (1 + 1), none⟩ = some (.int .u64 y.d.b) ∧ w'.cell? ⟨(bd.add (k * 4)).block, (bd.add (k * 4)).off + (2 + 1), none⟩ = some (.string y.d.t)) ∧ TBox w' w.heap.size (.slice Ao no co) (.slice An nn cn) (.slice (some ad) nm cm) ∧ TBox w' (w.heap.size + 1) (.slice Bo qo eo) (.slice Bn qn en) (.slice (some bd) qm em)) (by kernel_rfl) (by kernel_rfl) ⟨HB.drew, ⟨c0, c1, c2, c3⟩, ⟨d0, d1, d2, d3⟩, O1, O2⟩ ?_
          clear HB c0 c1 c2 c3 d0 d1 d2 d3 O1 O2 O10 O11 O12 O20 O21 O22
          rcases hw with h1 | ⟨h1, h2⟩ | ⟨h1, h2, h3⟩ | ⟨h1, h2, h3, h4⟩
          · skip
            repeat (first
              | (refine' RW.val (by rfl) ?_ ?_; rotate_left; (focus (intro w' hS; obtain ⟨HB, ⟨c0, c1, c2, c3⟩, ⟨d0, d1, d2, d3⟩, O1, O2⟩ := hS; obtain ⟨O10, O11, O12⟩ := id O1; obtain ⟨O20, O21, O22⟩ := id O2; go_simp; rfl)); simp only [Act.put, List.setIfInBounds_toArray, List.set_cons_zero, List.set_cons_succ])
              | (refine RW.off (by rfl) ?_; simp only [Act.put, List.setIfInBounds_toArray, List.set_cons_zero, List.set_cons_succ]))
            refine RW.done (fun w' hS => ?_)
            obtain ⟨HB, ⟨c0, c1, c2, c3⟩, ⟨d0, d1, d2, d3⟩, O1, O2⟩ := hS; obtain ⟨O10, O11, O12⟩ := id O1; obtain ⟨O20, O21, O22⟩ := id O2
            go_wp2
            go_ret
            exact ⟨rfl, HB⟩
          · skip
            repeat (first
              | (refine' RW.val (by rfl) ?_ ?_; rotate_left; (focus (intro w' hS; obtain ⟨HB, ⟨c0, c1, c2, c3⟩, ⟨d0, d1, d2, d3⟩, O1, O2⟩ := hS; obtain ⟨O10, O11, O12⟩ := id O1; obtain ⟨O20, O21, O22⟩ := id O2; go_simp; rfl)); simp only [Act.put, List.setIfInBounds_toArray, List.set_cons_zero, List.set_cons_succ])
              | (refine RW.off (by rfl) ?_; simp only [Act.put, List.setIfInBounds_toArray, List.set_cons_zero, List.set_cons_succ]))
            refine RW.done (fun w' hS => ?_)
            obtain ⟨HB, ⟨c0, c1, c2, c3⟩, ⟨d0, d1, d2, d3⟩, O1, O2⟩ := hS; obtain ⟨O10, O11, O12⟩ := id O1; obtain ⟨O20, O21, O22⟩ := id O2
            go_wp2
            go_ret
            exact ⟨rfl, HB⟩
          · skip
            repeat (first
              | (refine' RW.val (by rfl) ?_ ?_; rotate_left; (focus (intro w' hS; obtain ⟨HB, ⟨c0, c1, c2, c3⟩, ⟨d0, d1, d2, d3⟩, O1, O2⟩ := hS; obtain ⟨O10, O11, O12⟩ := id O1; obtain ⟨O20, O21, O22⟩ := id O2; go_simp; rfl)); simp only [Act.put, List.setIfInBounds_toArray, List.set_cons_zero, List.set_cons_succ])
              | (refine RW.off (by rfl) ?_; simp only [Act.put, List.setIfInBounds_toArray, List.set_cons_zero, List.set_cons_succ]))
            refine RW.done (fun w' hS => ?_)
            obtain ⟨HB, ⟨c0, c1, c2, c3⟩, ⟨d0, d1, d2, d3⟩, O1, O2⟩ := hS; obtain ⟨O10, O11, O12⟩ := id O1; obtain ⟨O20, O21, O22⟩ := id O2
            go_wp2
            go_ret
            exact ⟨rfl, HB⟩
          · skip
            repeat (first
              | (refine' RW.val (by rfl) ?_ ?_; rotate_left; (focus (intro w' hS; obtain ⟨HB, ⟨c0, c1, c2, c3⟩, ⟨d0, d1, d2, d3⟩, O1, O2⟩ := hS; obtain ⟨O10, O11, O12⟩ := id O1; obtain ⟨O20, O21, O22⟩ := id O2; go_simp; rfl)); simp only [Act.put, List.setIfInBounds_toArray, List.set_cons_zero, List.set_cons_succ])
              | (refine RW.off (by rfl) ?_; simp only [Act.put, List.setIfInBounds_toArray, List.set_cons_zero, List.set_cons_succ]))
            refine RW.done (fun w' hS => ?_)
            obtain ⟨HB, ⟨c0, c1, c2, c3⟩, ⟨d0, d1, d2, d3⟩, O1, O2⟩ := hS; obtain ⟨O10, O11, O12⟩ := id O1; obtain ⟨O20, O21, O22⟩ := id O2
            go_wp2
            go_ret
            exact ⟨rfl, HB⟩
        · have hall2 : Hid (a.m.take (k + 1) = b.m.take (k + 1)) := Lib.hid (by rw [List.take_add_one, List.take_add_one, hall.out, HX.out, HY.out, he])
          clear he hall
          refine RW.start (fun w' => Below w.heap.size w w' ∧ Rd w' (some ad) (cellsM a.m) ∧ Rd w' (some bd) (cellsM b.m) ∧ (w'.cell? (ad.add (k * 4)) = some (.int .i64 x.f) ∧ w'.cell? ⟨(ad.add (k * 4)).block, (ad.add (k * 4)).off + (0 + 1), none⟩ = some (.int .i64 x.d.k) ∧ w'.cell? ⟨(ad.add (k * 4)).block, (ad.add (k * 4)).off + (1 + 1), none⟩ = some (.int .u64 x.d.b) ∧ w'.cell? ⟨(ad.add (k * 4)).block, (ad.add (k * 4)).off + (2 + 1), none⟩ = some (.string x.d.t)) ∧ (w'.cell? (bd.add (k * 4)) = some (.int .i64 y.f) ∧ w'.cell? ⟨(bd.add (k * 4)).block, (bd.add (k * 4)).off + (0 + 1), none⟩ = some (.int .i64 y.d.k) ∧ w'.cell? ⟨(bd.add (k * 4)).block, (bd.add (k * 4)).off + (1 + 1), none⟩ = some (.int .u64 y.d.b) ∧ w'.cell? ⟨(bd.add (k * 4)).block, (bd.add (k * 4)).off + (2 + 1), none⟩ = some (.string y.d.t)) ∧ TBox w' w.heap.size (.slice Ao no co) (.slice An nn cn) (.slice (some ad) nm cm) ∧ TBox w' (w.heap.size + 1) (.slice Bo qo eo) (.slice Bn qn en) (.slice (some bd) qm em)) (by kernel_rfl) (by kernel_rfl) ⟨HB.drew, am, bm, ⟨c0, c1, c2, c3⟩, ⟨d0, d1, d2, d3⟩, O1, O2⟩ ?_
          clear HB am bm c0 c1 c2 c3 d0 d1 d2 d3 O1 O2 O10 O11 O12 O20 O21 O22
          repeat (first
            | (refine' RW.val (by rfl) ?_ ?_; rotate_left; (focus (intro w' hS; obtain ⟨HB, am, bm, ⟨c0, c1, c2, c3⟩, ⟨d0, d1, d2, d3⟩, O1, O2⟩ := hS; obtain ⟨O10, O11, O12⟩ := id O1; obtain ⟨O20, O21, O22⟩ := id O2; go_simp; rfl)); simp only [Act.put, List.setIfInBounds_toArray, List.set_cons_zero, List.set_cons_succ])
            | (refine RW.off (by rfl) ?_; simp only [Act.put, List.setIfInBounds_toArray, List.set_cons_zero, List.set_cons_succ]))
          refine RW.done (fun w' hS => ?_)
          obtain ⟨HB, am, bm, ⟨c0, c1, c2, c3⟩, ⟨d0, d1, d2, d3⟩, O1, O2⟩ := hS; obtain ⟨O10, O11, O12⟩ := id O1; obtain ⟨O20, O21, O22⟩ := id O2
          go_wp2
          go_roundw
          case rel => exact ⟨k + 1, by omega, by go_num, HB, am, bm, O1, O2, hall2⟩
          case measure => simp [intOf]; omega
      · obtain rfl : k = nm := by omega
        obtain rfl : r = true := by
          have h := hall.out
          have e1 : a.m.take k = a.m := List.take_of_length_le (by rw [HNM.out]; exact Nat.le_refl _)
          have e2 : b.m.take k = b.m := List.take_of_length_le (by rw [HQM.out, HL.out]; exact Nat.le_refl _)
          rw [e1, e2] at h
          rw [HRR.out, h]; simp
        go_wp2
        go_ret
        exact ⟨rfl, HB⟩
  · have hz : ((nm : Int) != (qm : Int)) = true := by simp; omega
    obtain rfl : r = false := by
      rw [HRR.out]; simp; intro e; exact hlen (by rw [← HNM.out, ← HQM.out, e])
    clear hlen
    go_enter Try.func13, Try.ntmps13
    go_wp2_with (first
      | (have _t := tok1; go_at_call 15; refine (Same6_m Ao Bo co eo no qo a.o b.o HNO.out HQO.out true HR1.out _ ao bo l0 m0).mono ?_; rintro e wM ⟨rfl, hb⟩; replace HB := HB.trans (hb.mono HB.size); replace an := an.below hb; replace bn := bn.below hb; replace am := am.below hb; replace bm := bm.below hb; replace O1 := O1.below hb; obtain ⟨O10, O11, O12⟩ := id O1; replace O2 := O2.below hb; obtain ⟨O20, O21, O22⟩ := id O2; clear hb tok1; have tok2 := True.intro)
      | (have _t := tok2; go_at_call 15; refine (Same6_m An Bn cn en nn qn a.n b.n HNN.out HQN.out true HR2.out _ an bn l1 m1).mono ?_; rintro e wM ⟨rfl, hb⟩; replace HB := HB.trans (hb.mono HB.size); replace am := am.below hb; replace bm := bm.below hb; replace O1 := O1.below hb; obtain ⟨O10, O11, O12⟩ := id O1; replace O2 := O2.below hb; obtain ⟨O20, O21, O22⟩ := id O2; clear hb tok2; have tok3 := True.intro))
    go_ret
    exact ⟨rfl, HB⟩
end Go.Proofs.Ytehcpjodkadfnaa
/- Layers 7 and 8 of the heap, tables, third part: rows of fields are cloned. -/
set_option linter.unusedSimpArgs false
set_option linter.unusedVariables false
set_option maxRecDepth 100000
namespace Go.Proofs.Ytehcpjodkadfnaa
open Go.RowKit

theorem infoMv : (Try.prog.info? 63).map (fun i => (i.zero, i.size, i.bytes)) = some (some (.agg #[.int .i64 0, .int .i64 0, .int .u64 0, .string ⟨#[]⟩]), 4, 40) := by kernel_rfl
theorem infoMr : (Try.prog.info? 71).map (fun i => (i.zero, i.size, i.bytes)) = some (some (.agg #[.int .i64 0, .int .i64 0, .int .u64 0, .string ⟨#[]⟩]), 4, 40) := by kernel_rfl
set_option maxHeartbeats 1600000 in
theorem CloneF_calls (A : Option Addr) (c : Nat) (l : List Fd) (w : World) (hA : Rd w A (cellsF l)) (hl : l.length ≤ 4398046511104) (hlc : l.length ≤ c) :
    Calls Try.prog 49 #[.slice A l.length c] w fun e w' => ∃ v, e = .returned v ∧ w'.ownsRow w.heap.size 24 3 v l.length (cellsF l) ∧ Below w.heap.size w w' := by
  obtain ⟨i0, hi, hz0, hz1, hz2⟩ := info_parts infoFd
  cases A with
  | none =>
    obtain rfl : l = [] := by
      cases l with
      | nil => rfl
      | cons x r => obtain ⟨ad, e, _⟩ := hA (by simp [cellsF]); cases e
    have heq : ∀ w : World, (binOp .eql 22 (.slice none 0 c) (.slice none 0 0)).run Try.prog w = .ok (.bool true) w := fun w => Lib.run_eql_slice_nil (P := Try.prog) w 22 24 none 0 c 0 0 Try.underlying22
    go_enter Try.func49, Try.ntmps49
    go_wp2
    go_ret
    exact ⟨_, rfl, own_nil _ _ _ _, Below.refl _ _⟩
  | some ad =>
    have heq : ∀ w : World, (binOp .eql 22 (.slice (some ad) l.length c) (.slice none 0 0)).run Try.prog w = .ok (.bool false) w := fun w => Lib.run_eql_slice_nil (P := Try.prog) w 22 24 (some ad) l.length c 0 0 Try.underlying22
    have hown : (w.alloc (.cells #[] 24)).ownsRow w.heap.size 24 3 (.slice (some ⟨w.heap.size, 0, none⟩) 0 0) 0 [] := ⟨rfl, .inr ⟨_, 0, #[], rfl, Nat.le_refl _, World.alloc_heap_new _ _, Nat.le_refl _, Nat.zero_le _, rfl, rfl⟩⟩
    have hA2 := hA.below (below_new (.cells #[] 24))
    go_enter Try.func49, Try.ntmps49
    go_wp2_with (at_builtin; refine wpList_append_own _ rfl _ _ 22 rfl w.heap.size 24 i0 (.agg #[.string ⟨#[]⟩, .int .i64 0, .int .i64 0]) 3 32 Try.underlying22 hi hz0 hz1 hz2 rfl (by decide) _ _ _ rfl hown ad l.length c (cellsF l) rfl ?c0 ?c1 ?c2 ?c3 ?c4 ?c5 ?_)
    case c0 => rw [cellsF_length]; omega
    case c1 =>
      intro j u hj
      obtain ⟨ad', e, h⟩ := hA2 (by rintro e; rw [e] at hj; simp at hj)
      cases e; exact h j u hj
    case c2 =>
      intro u hu
      simp only [cellsF, List.mem_flatMap] at hu
      obtain ⟨f, _, hu⟩ := hu
      simp at hu
      rcases hu with rfl | rfl | rfl <;> rfl
    case c3 => simp only [maxLen]; omega
    case c4 => omega
    case c5 => simp
    intro v' w1 hown' hgrow _
    have hB := (below_new (w := w) (.cells #[] 24)).grown hgrow (by simp) (fun q hq => own_base hown q hq)
    clear hown hgrow
    go_wp2
    go_ret
    exact ⟨_, rfl, own_eq hown' (by simp) (by simp), hB⟩
end Go.Proofs.Ytehcpjodkadfnaa
/- Layers 7 and 8 of the heap, tables, fourth part: whether rows of fields are alike, by slices.Equal. -/
set_option linter.unusedSimpArgs false
set_option linter.unusedVariables false
set_option maxRecDepth 100000
namespace Go.Proofs.Ytehcpjodkadfnaa
open Go.RowKit

set_option maxHeartbeats 4000000 in
theorem SlEqual_calls (A B : Option Addr) (c d : Nat) (a b : List Fd) (w : World) (hA : Rd w A (cellsF a)) (hB : Rd w B (cellsF b)) (ha : a.length ≤ 9223372036854775807) (hb : b.length ≤ 9223372036854775807) :
    Calls Try.prog 60 #[.slice A a.length c, .slice B b.length d] w fun e w' => e = .returned (.bool (sameFB a b)) ∧ Below w.heap.size w w' := by
  by_cases hlen : a.length = b.length
  · have hz : ((a.length : Int) != (b.length : Int)) = false := by rw [hlen]; simp
    obtain ⟨r, hr⟩ : ∃ r, sameFB a b = r := ⟨_, rfl⟩
    rw [hr]
    have HR := Lib.hid hr
    have HL := Lib.hid hlen
    clear hr
    obtain ⟨m, hm⟩ : ∃ m, b.length = m := ⟨_, rfl⟩
    rw [hm] at hz hlen ⊢
    have HM := Lib.hid hm
    clear hm hlen hb
    go_enter Try.func60, Try.ntmps60
    go_wp2
    go_loopw [5, 13] (fun _ i wr => ∃ k : Nat, k ≤ a.length ∧ i = .int .i64 k ∧ Below w.heap.size w wr ∧ Hid (a.take k = b.take k)) (fun _ i _ => a.length - (intOf i).toNat)
    case atStart => exact ⟨0, by omega, rfl, Below.refl _ _, Lib.hid rfl⟩
    case round =>
      obtain ⟨k, hk, rfl, HB, hall⟩ := hrel
      have hAr := hA.below HB
      have hBr := hB.below HB
      clear hA hB
      by_cases hlt : k < a.length
      · have hlb : k < m := by have := HL.out; have := HM.out; omega
        obtain ⟨x, hx⟩ : ∃ x, a[k]? = some x := ⟨_, List.getElem?_eq_getElem hlt⟩
        obtain ⟨y, hy⟩ : ∃ y, b[k]? = some y := ⟨_, List.getElem?_eq_getElem (by rw [HM.out]; exact hlb)⟩
        obtain ⟨ad, rfl, c0, c1, c2⟩ := hAr.fld hx
        obtain ⟨bd, rfl, d0, d1, d2⟩ := hBr.fld hy
        have HX := Lib.hid hx
        have HY := Lib.hid hy
        clear hx hy hAr hBr
        have hi0 : (0 : Int) ≤ (k : Int) := by omega
        have hi1 : (k : Int) < (a.length : Int) := by omega
        have hi2 : (k : Int) < (m : Int) := by omega
        go_wp2
        rcases fd_ways x y with ⟨hne, h1⟩ | ⟨hne, h1, h2⟩ | ⟨hne, h1, h2, h3⟩ | ⟨he, h1, h2, h3⟩
        · obtain rfl : r = false := by
            rw [← HR.out]; simp [sameFB]; intro e
            have h1 := HX.out; rw [e, HY.out] at h1; exact hne (Option.some.inj h1).symm
          clear hne hall
          refine RW.start (fun w' => Below w.heap.size w w' ∧ (w'.cell? (ad.add (k * 3)) = some (.string x.s) ∧ w'.cell? ⟨(ad.add (k * 3)).block, (ad.add (k * 3)).off + (0 + 1), none⟩ = some (.int .i64 x.k) ∧ w'.cell? ⟨(ad.add (k * 3)).block, (ad.add (k * 3)).off + (1 + 1), none⟩ = some (.int .i64 x.l)) ∧ (w'.cell? (bd.add (k * 3)) = some (.string y.s) ∧ w'.cell? ⟨(bd.add (k * 3)).block, (bd.add (k * 3)).off + (0 + 1), none⟩ = some (.int .i64 y.k) ∧ w'.cell? ⟨(bd.add (k * 3)).block, (bd.add (k * 3)).off + (1 + 1), none⟩ = some (.int .i64 y.l))) (by kernel_rfl) (by kernel_rfl) ⟨HB.drew, ⟨c0, c1, c2⟩, d0, d1, d2⟩ ?_
          clear HB c0 c1 c2 d0 d1 d2
          repeat (first
            | (refine' RW.val (by rfl) ?_ ?_; rotate_left; (focus (intro w' hS; obtain ⟨HB, ⟨c0, c1, c2⟩, d0, d1, d2⟩ := hS; go_simp; rfl)); simp only [Act.put, List.setIfInBounds_toArray, List.set_cons_zero, List.set_cons_succ])
            | (refine RW.off (by rfl) ?_; simp only [Act.put, List.setIfInBounds_toArray, List.set_cons_zero, List.set_cons_succ]))
          refine RW.done (fun w' hS => ?_)
          obtain ⟨HB, ⟨c0, c1, c2⟩, d0, d1, d2⟩ := hS
          go_wp2
          go_ret
          exact ⟨rfl, HB⟩
        · obtain rfl : r = false := by
            rw [← HR.out]; simp [sameFB]; intro e
            have h1 := HX.out; rw [e, HY.out] at h1; exact hne (Option.some.inj h1).symm
          clear hne hall
          refine RW.start (fun w' => Below w.heap.size w w' ∧ (w'.cell? (ad.add (k * 3)) = some (.string x.s) ∧ w'.cell? ⟨(ad.add (k * 3)).block, (ad.add (k * 3)).off + (0 + 1), none⟩ = some (.int .i64 x.k) ∧ w'.cell? ⟨(ad.add (k * 3)).block, (ad.add (k * 3)).off + (1 + 1), none⟩ = some (.int .i64 x.l)) ∧ (w'.cell? (bd.add (k * 3)) = some (.string y.s) ∧ w'.cell? ⟨(bd.add (k * 3)).block, (bd.add (k * 3)).off + (0 + 1), none⟩ = some (.int .i64 y.k) ∧ w'.cell? ⟨(bd.add (k * 3)).block, (bd.add (k * 3)).off + (1 + 1), none⟩ = some (.int .i64 y.l))) (by kernel_rfl) (by kernel_rfl) ⟨HB.drew, ⟨c0, c1, c2⟩, d0, d1, d2⟩ ?_
          clear HB c0 c1 c2 d0 d1 d2
          repeat (first
            | (refine' RW.val (by rfl) ?_ ?_; rotate_left; (focus (intro w' hS; obtain ⟨HB, ⟨c0, c1, c2⟩, d0, d1, d2⟩ := hS; go_simp; rfl)); simp only [Act.put, List.setIfInBounds_toArray, List.set_cons_zero, List.set_cons_succ])
            | (refine RW.off (by rfl) ?_; simp only [Act.put, List.setIfInBounds_toArray, List.set_cons_zero, List.set_cons_succ]))
          refine RW.done (fun w' hS => ?_)
          obtain ⟨HB, ⟨c0, c1, c2⟩, d0, d1, d2⟩ := hS
          go_wp2
          go_ret
          exact ⟨rfl, HB⟩
        · obtain rfl : r = false := by
            rw [← HR.out]; simp [sameFB]; intro e
            have h1 := HX.out; rw [e, HY.out] at h1; exact hne (Option.some.inj h1).symm
          clear hne hall
          refine RW.start (fun w' => Below w.heap.size w w' ∧ (w'.cell? (ad.add (k * 3)) = some (.string x.s) ∧ w'.cell? ⟨(ad.add (k * 3)).block, (ad.add (k * 3)).off + (0 + 1), none⟩ = some (.int .i64 x.k) ∧ w'.cell? ⟨(ad.add (k * 3)).block, (ad.add (k * 3)).off + (1 + 1), none⟩ = some (.int .i64 x.l)) ∧ (w'.cell? (bd.add (k * 3)) = some (.string y.s) ∧ w'.cell? ⟨(bd.add (k * 3)).block, (bd.add (k * 3)).off + (0 + 1), none⟩ = some (.int .i64 y.k) ∧ w'.cell? ⟨(bd.add (k * 3)).block, (bd.add (k * 3)).off + (1 + 1), none⟩ = some (.int .i64 y.l))) (by kernel_rfl) (by kernel_rfl) ⟨HB.drew, ⟨c0, c1, c2⟩, d0, d1, d2⟩ ?_
          clear HB c0 c1 c2 d0 d1 d2
          repeat (first
            | (refine' RW.val (by rfl) ?_ ?_; rotate_left; (focus (intro w' hS; obtain ⟨HB, ⟨c0, c1, c2⟩, d0, d1, d2⟩ := hS; go_simp; rfl)); simp only [Act.put, List.setIfInBounds_toArray, List.set_cons_zero, List.set_cons_succ])
            | (refine RW.off (by rfl) ?_; simp only [Act.put, List.setIfInBounds_toArray, List.set_cons_zero, List.set_cons_succ]))
          refine RW.done (fun w' hS => ?_)
          obtain ⟨HB, ⟨c0, c1, c2⟩, d0, d1, d2⟩ := hS
          go_wp2
          go_ret
          exact ⟨rfl, HB⟩
        · have hall2 : Hid (a.take (k + 1) = b.take (k + 1)) := Lib.hid (by rw [List.take_add_one, List.take_add_one, hall.out, HX.out, HY.out, he])
          clear he hall
          refine RW.start (fun w' => Below w.heap.size w w' ∧ (w'.cell? (ad.add (k * 3)) = some (.string x.s) ∧ w'.cell? ⟨(ad.add (k * 3)).block, (ad.add (k * 3)).off + (0 + 1), none⟩ = some (.int .i64 x.k) ∧ w'.cell? ⟨(ad.add (k * 3)).block, (ad.add (k * 3)).off + (1 + 1), none⟩ = some (.int .i64 x.l)) ∧ (w'.cell? (bd.add (k * 3)) = some (.string y.s) ∧ w'.cell? ⟨(bd.add (k * 3)).block, (bd.add (k * 3)).off + (0 + 1), none⟩ = some (.int .i64 y.k) ∧ w'.cell? ⟨(bd.add (k * 3)).block, (bd.add (k * 3)).off + (1 + 1), none⟩ = some (.int .i64 y.l))) (by kernel_rfl) (by kernel_rfl) ⟨HB.drew, ⟨c0, c1, c2⟩, d0, d1, d2⟩ ?_
          clear HB c0 c1 c2 d0 d1 d2
          repeat (first
            | (refine' RW.val (by rfl) ?_ ?_; rotate_left; (focus (intro w' hS; obtain ⟨HB, ⟨c0, c1, c2⟩, d0, d1, d2⟩ := hS; go_simp; rfl)); simp only [Act.put, List.setIfInBounds_toArray, List.set_cons_zero, List.set_cons_succ])
            | (refine RW.off (by rfl) ?_; simp only [Act.put, List.setIfInBounds_toArray, List.set_cons_zero, List.set_cons_succ]))
          refine RW.done (fun w' hS => ?_)
          obtain ⟨HB, ⟨c0, c1, c2⟩, d0, d1, d2⟩ := hS
          go_wp2
          go_roundw
          case rel => exact ⟨k + 1, by omega, by go_num, HB, hall2⟩
          case measure => simp [intOf]; omega
      · obtain rfl : k = a.length := by omega
        obtain rfl : r = true := by
          rw [← HR.out]; have h := hall.out
          rw [List.take_length, HL.out, List.take_length] at h
          simpa [sameFB] using h
        clear hAr hBr
        go_wp2
        go_ret
        exact ⟨rfl, HB⟩
  · have hz : ((a.length : Int) != (b.length : Int)) = true := by simp; omega
    have hr : sameFB a b = false := by simp [sameFB]; intro e; exact hlen (by rw [e])
    rw [hr]
    clear hr hlen
    go_enter Try.func60, Try.ntmps60
    go_wp2
    go_ret
    exact ⟨rfl, Below.refl _ _⟩
theorem SlEqual_m (A B : Option Addr) (c d m n : Nat) (a b : List Fd) (ha : a.length = m) (hb : b.length = n) (r : Bool) (hr : sameFB a b = r) (w : World) (hA : Rd w A (cellsF a)) (hB : Rd w B (cellsF b)) (hm : m ≤ 9223372036854775807) (hn : n ≤ 9223372036854775807) :
    Calls Try.prog 60 #[.slice A m c, .slice B n d] w fun e w' => e = .returned (.bool r) ∧ Below w.heap.size w w' := by
  subst ha hb hr; exact SlEqual_calls A B c d a b w hA hB hm hn
end Go.Proofs.Ytehcpjodkadfnaa
