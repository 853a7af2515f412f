/- Merged out of: Nd. -/
import Derived.Test.YtehcpjodkadfnaaUp
/- Layers 7 and 8 of the heap, tables: whether a table may be, as the document asks it. -/
set_option linter.unusedSimpArgs false
set_option linter.unusedVariables false
set_option maxRecDepth 100000
namespace Go.Proofs.Ytehcpjodkadfnaa
open Go.RowKit

theorem MBox.new (w : World) (m : Mv) (T : TypeId) : MBox (w.alloc (.cells #[.int .i64 m.f, .int .i64 m.d.k, .int .u64 m.d.b, .string m.d.t] T)) w.heap.size m := ⟨cell_new _ _ _ _ _ rfl, cell_new _ _ _ _ _ rfl, cell_new _ _ _ _ _ rfl, cell_new _ _ _ _ _ rfl⟩
def FdS (fs : List Fd) : Prop := ∀ f ∈ fs, f.s.size ≤ 9223372036854775807
theorem vl_ways {d : Vl} (hz : ¬ d = Vl.z) : (d.k == 0) = false ∨ ((d.k == 0) = true ∧ (d.b == 0) = false) ∨ ((d.k == 0) = true ∧ (d.b == 0) = true ∧ (d.t.toList == []) = false) := by
  rw [← ByteArray.toList_nil_beq d.t]
  obtain ⟨dk, db, dt⟩ := d
  by_cases e1 : dk = 0
  · by_cases e2 : db = 0
    · refine .inr (.inr ⟨by simp [e1], by simp [e2], ?_⟩)
      rw [name_beq]
      exact decide_eq_false fun e3 => hz (by have e3 : dt = _ := e3; show (⟨dk, db, dt⟩ : Vl) = Vl.z; rw [e1, e2, e3]; rfl)
    · exact .inr (.inl ⟨by simp [e1], by simp [e2]⟩)
  · exact .inl (by simp [e1])
set_option maxHeartbeats 8000000 in
theorem rTRight_m (t : Tb) (Ao An Am : Option Addr) (co cn cm no nn nm : Nat) (hno : t.o.length = no) (hnn : t.n.length = nn) (hnm : t.m.length = nm) (l0 : no ≤ 9223372036854775807) (l1 : nn ≤ 9223372036854775807) (l2 : nm ≤ 9223372036854775807) (hw : MvW t.m) (so : FdS t.o) (sn : FdS t.n)
    (w : World) (ao : Rd w Ao (cellsF t.o)) (an : Rd w An (cellsF t.n)) (am : Rd w Am (cellsM t.m)) :
    Calls Try.prog 62 #[.agg #[.slice Ao no co, .slice An nn cn, .slice Am nm cm]] w fun e w' => e = .returned (.bool (rightT t)) ∧ Below w.heap.size w w' := by
  obtain ⟨r, hr⟩ : ∃ r, rightT t = r := ⟨_, rfl⟩
  obtain ⟨r1, hr1⟩ : ∃ r, rightF t.o = r := ⟨_, rfl⟩
  obtain ⟨r2, hr2⟩ : ∃ r, rightF t.n = r := ⟨_, rfl⟩
  have hrr : r = (r1 && r2 && decide (nm = nn) && decide (∀ k, k < nm → okAt t k = true)) := by rw [← hr, ← hr1, ← hr2, ← hnm, ← hnn, rightT]
  rw [hr]
  have hb1 := below_new (w := w) (.cells #[.slice Ao no co, .slice An nn cn, .slice Am nm cm] 43)
  have O := TBox.new w (.slice Ao no co) (.slice An nn cn) (.slice Am nm cm) 43
  have HB := hb1
  replace ao := ao.below hb1
  replace an := an.below hb1
  replace am := am.below hb1
  obtain ⟨O0, O1, O2⟩ := id O
  have HR1 := Lib.hid hr1
  have HR2 := Lib.hid hr2
  have HRR := Lib.hid hrr
  have HNO := Lib.hid hno
  have HNN := Lib.hid hnn
  have HNM := Lib.hid hnm
  have HW := Lib.hid hw
  have SO := Lib.hid so
  have SN := Lib.hid sn
  have tok1 := True.intro
  clear hr hr1 hr2 hrr hno hnn hnm hb1 hw so sn
  cases r1
  · obtain rfl : r = false := by rw [HRR.out]; rfl
    go_enter Try.func62, Try.ntmps62
    go_wp2_with (go_at_call 17; refine (rRight_m Ao co no t.o HNO.out false HR1.out _ ao l0 SO.out).mono ?_; rintro e wM ⟨rfl, hb⟩; replace HB := HB.trans (hb.mono HB.size); replace O := O.below hb; obtain ⟨O0, O1, O2⟩ := id O; clear hb)
    go_ret
    exact ⟨rfl, HB⟩
  cases r2
  · obtain rfl : r = false := by rw [HRR.out]; rfl
    go_enter Try.func62, Try.ntmps62
    go_wp2_with (first
      | (have _t := tok1; go_at_call 17; refine (rRight_m Ao co no t.o HNO.out true HR1.out _ ao l0 SO.out).mono ?_; rintro e wM ⟨rfl, hb⟩; replace HB := HB.trans (hb.mono HB.size); replace an := an.below hb; replace am := am.below hb; replace O := O.below hb; obtain ⟨O0, O1, O2⟩ := id O; clear hb tok1; have tok2 := True.intro)
      | (have _t := tok2; go_at_call 17; refine (rRight_m An cn nn t.n HNN.out false HR2.out _ an l1 SN.out).mono ?_; rintro e wM ⟨rfl, hb⟩; replace HB := HB.trans (hb.mono HB.size); replace O := O.below hb; obtain ⟨O0, O1, O2⟩ := id O; clear hb tok2; have tok3 := True.intro))
    go_ret
    exact ⟨rfl, HB⟩
  by_cases hlen : nm = nn
  · have hz : ((nm : Int) != (nn : Int)) = false := by rw [hlen]; simp
    have HL := Lib.hid hlen
    clear hlen
    go_enter Try.func62, Try.ntmps62
    go_wp2_with (first
      | (have _t := tok1; go_at_call 17; refine (rRight_m Ao co no t.o HNO.out true HR1.out _ ao l0 SO.out).mono ?_; rintro e wM ⟨rfl, hb⟩; replace HB := HB.trans (hb.mono HB.size); replace ao := ao.below hb; replace an := an.below hb; replace am := am.below hb; replace O := O.below hb; obtain ⟨O0, O1, O2⟩ := id O; clear hb tok1; have tok2 := True.intro)
      | (have _t := tok2; go_at_call 17; refine (rRight_m An cn nn t.n HNN.out true HR2.out _ an l1 SN.out).mono ?_; rintro e wM ⟨rfl, hb⟩; replace HB := HB.trans (hb.mono HB.size); replace ao := ao.below hb; replace an := an.below hb; replace am := am.below hb; replace O := O.below hb; obtain ⟨O0, O1, O2⟩ := id O; clear hb tok2; have tok3 := True.intro))
    rename World => W1
    have ao0 := ao
    have an0 := an
    have am0 := am
    have O' := O
    have HB0 := HB
    clear ao an am O HB
    go_loopw [3, 4] (fun i _ wr => ∃ k : Nat, k ≤ nm ∧ i = .int .i64 k ∧ Below w.heap.size w wr ∧ Rd wr Ao (cellsF t.o) ∧ Rd wr An (cellsF t.n) ∧ Rd wr Am (cellsM t.m) ∧ TBox wr w.heap.size (.slice Ao no co) (.slice An nn cn) (.slice Am nm cm) ∧ Hid (∀ j, j < k → okAt t j = true)) (fun i _ _ => nm - (intOf i).toNat)
    case atStart => exact ⟨0, by omega, rfl, HB0, ao0, an0, am0, O', Lib.hid (fun j hj => by omega)⟩
    case round =>
      obtain ⟨k, hk, rfl, HB, ao, an, am, O, hall⟩ := hrel
      clear HB0 ao0 an0 am0 O' O0 O1 O2
      obtain ⟨O0, O1, O2⟩ := id O
      by_cases hlt : k < nm
      · obtain ⟨x, hx⟩ : ∃ x, t.m[k]? = some x := ⟨_, List.getElem?_eq_getElem (by rw [HNM.out]; exact hlt)⟩
        have hln : k < nn := by have := HL.out; omega
        obtain ⟨g, hg⟩ : ∃ y, t.n[k]? = some y := ⟨_, List.getElem?_eq_getElem (by rw [HNN.out]; exact hln)⟩
        have hat : okAt t k = okMv t.o g x := by simp [okAt, hx, hg]
        obtain ⟨b0, b1⟩ := HW.out x (List.mem_of_getElem? hx)
        obtain ⟨s, hs⟩ : ∃ s, okMv t.o g x = s := ⟨_, rfl⟩
        have HX := Lib.hid hx
        have HG := Lib.hid hg
        have HS := Lib.hid hs
        have HAT := Lib.hid (hat.trans hs)
        obtain ⟨ad, ea, c0, c1, c2, c3⟩ := am.mv hx
        obtain ⟨bd, eb, _, _, _⟩ := an.fld hg
        have hno : s = false → r = false := fun hs => by
          have hn : ¬ ∀ j, j < nm → okAt t j = true := fun h => by have := h k hlt; rw [HAT.out, hs] at this; cases this
          rw [HRR.out, decide_eq_false hn]; simp
        have hyes : s = true → Hid (∀ j, j < k + 1 → okAt t j = true) := fun hs => Lib.hid (fun j hj => by
          rcases (by omega : j < k ∨ j = k) with h | rfl
          · exact hall.out j h
          · rw [HAT.out]; exact hs)
        have HNOT := Lib.hid hno
        have HYES := Lib.hid hyes
        have hi0 : (0 : Int) ≤ (k : Int) := by omega
        have hi1 : (k : Int) < (nn : Int) := by omega
        have hi2 : (k : Int) < (nm : Int) := by omega
        clear hx hg hat hs hno hyes hall
        have M := MBox.new wr x 71
        have hbm := below_new (w := wr) (.cells #[.int .i64 x.f, .int .i64 x.d.k, .int .u64 x.d.b, .string x.d.t] 71)
        have HBo := HB
        have Oo := O
        replace HB := HB.trans (hbm.mono HB.size)
        replace ao := ao.below hbm
        replace an := an.below hbm
        replace am := am.below hbm
        replace O := O.below hbm
        obtain ⟨M0, M1, M2, M3⟩ := id M
        obtain ⟨P0, P1, P2⟩ := id O
        subst ea eb
        clear hbm
        by_cases hlow : x.f < -1
        · have h1 : decide (x.f < -1) = true := by simpa using hlow
          obtain rfl : s = false := by rw [← HS.out, okMv, if_neg (by omega), decide_eq_false (by omega)]; rfl
          obtain rfl := HNOT.out rfl
          go_wp2
          go_ret
          exact ⟨rfl, HB⟩
        have h1 : decide (x.f < -1) = false := by simpa using hlow
        by_cases hbig : (no : Int) ≤ x.f
        · have h2 : decide ((no : Int) ≤ x.f) = true := by simpa using hbig
          obtain rfl : s = false := by rw [← HS.out, okMv, if_neg (by omega), List.getElem?_eq_none (by rw [HNO.out]; omega)]; simp
          obtain rfl := HNOT.out rfl
          go_wp2
          go_ret
          exact ⟨rfl, HB⟩
        have h2 : decide ((no : Int) ≤ x.f) = false := by simpa using hbig
        by_cases hf : x.f = -1
        · have e1 : (x.f == -1) = true := by simp [hf]
          have e2 : decide ((0 : Int) ≤ x.f) = false := by simp [hf]
          have hok : s = (rightB x.d.k x.d.b x.d.t g.k g.l && (decide (g.k ≠ 11) || decide (x.d.b = 0))) := by rw [← HS.out, okMv, if_pos hf]
          obtain ⟨q, hq⟩ : ∃ y, rightB x.d.k x.d.b x.d.t g.k g.l = y := ⟨_, rfl⟩
          rw [hq] at hok
          have HQ := Lib.hid hq
          clear hq hf hlow hbig
          go_upto_region 9 with fail
          clear M0 M1 M2 M3 P0 P1 P2 O0 O1 O2 c0 c1 c2 c3
          cases q
          · obtain rfl : s = false := hok
            obtain rfl := HNOT.out rfl
            refine RW.start (fun w' => Below w.heap.size w w' ∧ MBox w' wr.heap.size x ∧ TBox w' w.heap.size (.slice Ao no co) (.slice (some bd) nn cn) (.slice (some ad) nm cm) ∧ Rd w' Ao (cellsF t.o) ∧ Rd w' (some bd) (cellsF t.n) ∧ Rd w' (some ad) (cellsM t.m)) (by kernel_rfl) (by kernel_rfl) ⟨HB.drew, M, O, ao, an, am⟩ ?_
            clear HB M O ao an am HBo Oo
            repeat (first
              | (refine' RW.val (by rfl) ?_ ?_; rotate_left; (focus (intro w' hS; obtain ⟨HB, M, O, ao, an, am⟩ := hS; obtain ⟨M0, M1, M2, M3⟩ := id M; obtain ⟨O0, O1, O2⟩ := id O; obtain ⟨_, eb, d0, d1, d2⟩ := an.fld HG.out; cases eb; go_simp; rfl)); simp only [Act.put, List.setIfInBounds_toArray, List.set_cons_zero, List.set_cons_succ])
              | (refine RW.off (by rfl) ?_; simp only [Act.put, List.setIfInBounds_toArray, List.set_cons_zero, List.set_cons_succ])
              | (refine' RW.call (by rfl) ?_ ?_ ?_
                 rotate_left 3
                 (focus (intro w' hS; obtain ⟨HB, M, O, ao, an, am⟩ := hS; obtain ⟨M0, M1, M2, M3⟩ := id M; obtain ⟨O0, O1, O2⟩ := id O; obtain ⟨_, eb, d0, d1, d2⟩ := an.fld HG.out; cases eb; go_simp; exact ⟨rfl, rfl⟩))
                 (focus
                   intro w' hS
                   obtain ⟨HB, M, O, ao, an, am⟩ := hS; obtain ⟨M0, M1, M2, M3⟩ := id M; obtain ⟨O0, O1, O2⟩ := id O; obtain ⟨_, eb, d0, d1, d2⟩ := an.fld HG.out; cases eb
                   first
                     | (refine (rRight_is5 x.d.k x.d.b x.d.t g.s g.k g.l b0 b1 false HQ.out _).mono ?_; rintro e w1 ⟨rfl, hb⟩; exact ⟨rfl, ⟨(below_seq HB hb), (M.below hb), (O.below hb), (ao.below hb), (an.below hb), (am.below hb)⟩⟩))
                 simp only [Act.put, List.setIfInBounds_toArray, List.set_cons_zero, List.set_cons_succ]))
            refine RW.done (fun w' hS => ?_)
            obtain ⟨HB, M, O, ao, an, am⟩ := hS; obtain ⟨M0, M1, M2, M3⟩ := id M; obtain ⟨O0, O1, O2⟩ := id O; obtain ⟨_, eb, d0, d1, d2⟩ := an.fld HG.out; cases eb
            go_wp2
            go_ret
            exact ⟨rfl, HB⟩
          · by_cases hk11 : g.k = 11
            · have k1 : (g.k == 11) = true := by simp [hk11]
              by_cases hb0 : x.d.b = 0
              · have kb : (x.d.b != 0) = false := by simp [hb0]
                obtain rfl : s = true := by rw [hok]; simp [hb0]
                have hall2 := HYES.out rfl
                clear hok hb0 hk11
                refine RW.start (fun w' => Below w.heap.size w w' ∧ MBox w' wr.heap.size x ∧ TBox w' w.heap.size (.slice Ao no co) (.slice (some bd) nn cn) (.slice (some ad) nm cm) ∧ Rd w' Ao (cellsF t.o) ∧ Rd w' (some bd) (cellsF t.n) ∧ Rd w' (some ad) (cellsM t.m)) (by kernel_rfl) (by kernel_rfl) ⟨HB.drew, M, O, ao, an, am⟩ ?_
                clear HB M O ao an am HBo Oo
                repeat (first
                  | (refine' RW.val (by rfl) ?_ ?_; rotate_left; (focus (intro w' hS; obtain ⟨HB, M, O, ao, an, am⟩ := hS; obtain ⟨M0, M1, M2, M3⟩ := id M; obtain ⟨O0, O1, O2⟩ := id O; obtain ⟨_, eb, d0, d1, d2⟩ := an.fld HG.out; cases eb; go_simp; rfl)); simp only [Act.put, List.setIfInBounds_toArray, List.set_cons_zero, List.set_cons_succ])
                  | (refine RW.off (by rfl) ?_; simp only [Act.put, List.setIfInBounds_toArray, List.set_cons_zero, List.set_cons_succ])
                  | (refine' RW.call (by rfl) ?_ ?_ ?_
                     rotate_left 3
                     (focus (intro w' hS; obtain ⟨HB, M, O, ao, an, am⟩ := hS; obtain ⟨M0, M1, M2, M3⟩ := id M; obtain ⟨O0, O1, O2⟩ := id O; obtain ⟨_, eb, d0, d1, d2⟩ := an.fld HG.out; cases eb; go_simp; exact ⟨rfl, rfl⟩))
                     (focus
                       intro w' hS
                       obtain ⟨HB, M, O, ao, an, am⟩ := hS; obtain ⟨M0, M1, M2, M3⟩ := id M; obtain ⟨O0, O1, O2⟩ := id O; obtain ⟨_, eb, d0, d1, d2⟩ := an.fld HG.out; cases eb
                       first
                         | (refine (rRight_is5 x.d.k x.d.b x.d.t g.s g.k g.l b0 b1 true HQ.out _).mono ?_; rintro e w1 ⟨rfl, hb⟩; exact ⟨rfl, ⟨(below_seq HB hb), (M.below hb), (O.below hb), (ao.below hb), (an.below hb), (am.below hb)⟩⟩))
                     simp only [Act.put, List.setIfInBounds_toArray, List.set_cons_zero, List.set_cons_succ]))
                refine RW.done (fun w' hS => ?_)
                obtain ⟨HB, M, O, ao, an, am⟩ := hS; obtain ⟨M0, M1, M2, M3⟩ := id M; obtain ⟨O0, O1, O2⟩ := id O; obtain ⟨_, eb, d0, d1, d2⟩ := an.fld HG.out; cases eb
                go_upto_region 11 with fail
                refine RW.start (fun w' => Below w.heap.size w w' ∧ MBox w' wr.heap.size x ∧ TBox w' w.heap.size (.slice Ao no co) (.slice (some bd) nn cn) (.slice (some ad) nm cm) ∧ Rd w' Ao (cellsF t.o) ∧ Rd w' (some bd) (cellsF t.n) ∧ Rd w' (some ad) (cellsM t.m)) (by kernel_rfl) (by kernel_rfl) ⟨HB.drew, M, O, ao, an, am⟩ ?_
                clear HB M O ao an am
                repeat (first
                  | (refine' RW.val (by rfl) ?_ ?_; rotate_left; (focus (intro w' hS; obtain ⟨HB, M, O, ao, an, am⟩ := hS; obtain ⟨M0, M1, M2, M3⟩ := id M; obtain ⟨O0, O1, O2⟩ := id O; go_simp; rfl)); simp only [Act.put, List.setIfInBounds_toArray, List.set_cons_zero, List.set_cons_succ])
                  | (refine RW.off (by rfl) ?_; simp only [Act.put, List.setIfInBounds_toArray, List.set_cons_zero, List.set_cons_succ]))
                refine RW.done (fun w' hS => ?_)
                obtain ⟨HB, M, O, ao, an, am⟩ := hS; obtain ⟨M0, M1, M2, M3⟩ := id M; obtain ⟨O0, O1, O2⟩ := id O
                go_wp2
                go_roundw
                case rel => exact ⟨k + 1, by omega, by go_num, HB, ao, an, am, O, hall2⟩
                case measure => simp [intOf]; omega
              · have kb : (x.d.b != 0) = true := by simp [hb0]
                obtain rfl : s = false := by rw [hok]; simp [hb0, hk11]
                obtain rfl := HNOT.out rfl
                clear hok hb0 hk11
                refine RW.start (fun w' => Below w.heap.size w w' ∧ MBox w' wr.heap.size x ∧ TBox w' w.heap.size (.slice Ao no co) (.slice (some bd) nn cn) (.slice (some ad) nm cm) ∧ Rd w' Ao (cellsF t.o) ∧ Rd w' (some bd) (cellsF t.n) ∧ Rd w' (some ad) (cellsM t.m)) (by kernel_rfl) (by kernel_rfl) ⟨HB.drew, M, O, ao, an, am⟩ ?_
                clear HB M O ao an am HBo Oo
                repeat (first
                  | (refine' RW.val (by rfl) ?_ ?_; rotate_left; (focus (intro w' hS; obtain ⟨HB, M, O, ao, an, am⟩ := hS; obtain ⟨M0, M1, M2, M3⟩ := id M; obtain ⟨O0, O1, O2⟩ := id O; obtain ⟨_, eb, d0, d1, d2⟩ := an.fld HG.out; cases eb; go_simp; rfl)); simp only [Act.put, List.setIfInBounds_toArray, List.set_cons_zero, List.set_cons_succ])
                  | (refine RW.off (by rfl) ?_; simp only [Act.put, List.setIfInBounds_toArray, List.set_cons_zero, List.set_cons_succ])
                  | (refine' RW.call (by rfl) ?_ ?_ ?_
                     rotate_left 3
                     (focus (intro w' hS; obtain ⟨HB, M, O, ao, an, am⟩ := hS; obtain ⟨M0, M1, M2, M3⟩ := id M; obtain ⟨O0, O1, O2⟩ := id O; obtain ⟨_, eb, d0, d1, d2⟩ := an.fld HG.out; cases eb; go_simp; exact ⟨rfl, rfl⟩))
                     (focus
                       intro w' hS
                       obtain ⟨HB, M, O, ao, an, am⟩ := hS; obtain ⟨M0, M1, M2, M3⟩ := id M; obtain ⟨O0, O1, O2⟩ := id O; obtain ⟨_, eb, d0, d1, d2⟩ := an.fld HG.out; cases eb
                       first
                         | (refine (rRight_is5 x.d.k x.d.b x.d.t g.s g.k g.l b0 b1 true HQ.out _).mono ?_; rintro e w1 ⟨rfl, hb⟩; exact ⟨rfl, ⟨(below_seq HB hb), (M.below hb), (O.below hb), (ao.below hb), (an.below hb), (am.below hb)⟩⟩))
                     simp only [Act.put, List.setIfInBounds_toArray, List.set_cons_zero, List.set_cons_succ]))
                refine RW.done (fun w' hS => ?_)
                obtain ⟨HB, M, O, ao, an, am⟩ := hS; obtain ⟨M0, M1, M2, M3⟩ := id M; obtain ⟨O0, O1, O2⟩ := id O; obtain ⟨_, eb, d0, d1, d2⟩ := an.fld HG.out; cases eb
                go_wp2
                go_ret
                exact ⟨rfl, HB⟩
            · have k1 : (g.k == 11) = false := by simp [hk11]
              obtain rfl : s = true := by rw [hok]; simp [hk11]
              have hall2 := HYES.out rfl
              clear hok hk11
              refine RW.start (fun w' => Below w.heap.size w w' ∧ MBox w' wr.heap.size x ∧ TBox w' w.heap.size (.slice Ao no co) (.slice (some bd) nn cn) (.slice (some ad) nm cm) ∧ Rd w' Ao (cellsF t.o) ∧ Rd w' (some bd) (cellsF t.n) ∧ Rd w' (some ad) (cellsM t.m)) (by kernel_rfl) (by kernel_rfl) ⟨HB.drew, M, O, ao, an, am⟩ ?_
              clear HB M O ao an am HBo Oo
              repeat (first
                | (refine' RW.val (by rfl) ?_ ?_; rotate_left; (focus (intro w' hS; obtain ⟨HB, M, O, ao, an, am⟩ := hS; obtain ⟨M0, M1, M2, M3⟩ := id M; obtain ⟨O0, O1, O2⟩ := id O; obtain ⟨_, eb, d0, d1, d2⟩ := an.fld HG.out; cases eb; go_simp; rfl)); simp only [Act.put, List.setIfInBounds_toArray, List.set_cons_zero, List.set_cons_succ])
                | (refine RW.off (by rfl) ?_; simp only [Act.put, List.setIfInBounds_toArray, List.set_cons_zero, List.set_cons_succ])
                | (refine' RW.call (by rfl) ?_ ?_ ?_
                   rotate_left 3
                   (focus (intro w' hS; obtain ⟨HB, M, O, ao, an, am⟩ := hS; obtain ⟨M0, M1, M2, M3⟩ := id M; obtain ⟨O0, O1, O2⟩ := id O; obtain ⟨_, eb, d0, d1, d2⟩ := an.fld HG.out; cases eb; go_simp; exact ⟨rfl, rfl⟩))
                   (focus
                     intro w' hS
                     obtain ⟨HB, M, O, ao, an, am⟩ := hS; obtain ⟨M0, M1, M2, M3⟩ := id M; obtain ⟨O0, O1, O2⟩ := id O; obtain ⟨_, eb, d0, d1, d2⟩ := an.fld HG.out; cases eb
                     first
                       | (refine (rRight_is5 x.d.k x.d.b x.d.t g.s g.k g.l b0 b1 true HQ.out _).mono ?_; rintro e w1 ⟨rfl, hb⟩; exact ⟨rfl, ⟨(below_seq HB hb), (M.below hb), (O.below hb), (ao.below hb), (an.below hb), (am.below hb)⟩⟩))
                   simp only [Act.put, List.setIfInBounds_toArray, List.set_cons_zero, List.set_cons_succ]))
              refine RW.done (fun w' hS => ?_)
              obtain ⟨HB, M, O, ao, an, am⟩ := hS; obtain ⟨M0, M1, M2, M3⟩ := id M; obtain ⟨O0, O1, O2⟩ := id O; obtain ⟨_, eb, d0, d1, d2⟩ := an.fld HG.out; cases eb
              go_upto_region 11 with fail
              refine RW.start (fun w' => Below w.heap.size w w' ∧ MBox w' wr.heap.size x ∧ TBox w' w.heap.size (.slice Ao no co) (.slice (some bd) nn cn) (.slice (some ad) nm cm) ∧ Rd w' Ao (cellsF t.o) ∧ Rd w' (some bd) (cellsF t.n) ∧ Rd w' (some ad) (cellsM t.m)) (by kernel_rfl) (by kernel_rfl) ⟨HB.drew, M, O, ao, an, am⟩ ?_
              clear HB M O ao an am
              repeat (first
                | (refine' RW.val (by rfl) ?_ ?_; rotate_left; (focus (intro w' hS; obtain ⟨HB, M, O, ao, an, am⟩ := hS; obtain ⟨M0, M1, M2, M3⟩ := id M; obtain ⟨O0, O1, O2⟩ := id O; go_simp; rfl)); simp only [Act.put, List.setIfInBounds_toArray, List.set_cons_zero, List.set_cons_succ])
                | (refine RW.off (by rfl) ?_; simp only [Act.put, List.setIfInBounds_toArray, List.set_cons_zero, List.set_cons_succ]))
              refine RW.done (fun w' hS => ?_)
              obtain ⟨HB, M, O, ao, an, am⟩ := hS; obtain ⟨M0, M1, M2, M3⟩ := id M; obtain ⟨O0, O1, O2⟩ := id O
              go_wp2
              go_roundw
              case rel => exact ⟨k + 1, by omega, by go_num, HB, ao, an, am, O, hall2⟩
              case measure => simp [intOf]; omega
        · have e1 : (x.f == -1) = false := by simp [hf]
          have e2 : decide ((0 : Int) ≤ x.f) = true := by simp; omega
          have hxp : (0 : Int) ≤ x.f := by omega
          have hxl : x.f < (no : Int) := by omega
          obtain ⟨f, hof⟩ : ∃ f, t.o[x.f.toNat]? = some f := ⟨_, List.getElem?_eq_getElem (by rw [HNO.out]; omega)⟩
          have hok : s = (decide (x.d = Vl.z) && castsB f.k f.l g.k g.l) := by rw [← HS.out, okMv, if_neg hf, hof, decide_eq_true hxp]; rfl
          obtain ⟨od, eo, _, _, _⟩ := ao.fld hof
          subst eo
          have HF := Lib.hid hof
          clear hof hf hlow hbig
          go_upto_region 9 with fail
          clear M0 M1 M2 M3 P0 P1 P2 O0 O1 O2 c0 c1 c2 c3
          refine RW.start (fun w' => Below w.heap.size w w' ∧ MBox w' wr.heap.size x ∧ TBox w' w.heap.size (.slice (some od) no co) (.slice (some bd) nn cn) (.slice (some ad) nm cm) ∧ Rd w' (some od) (cellsF t.o) ∧ Rd w' (some bd) (cellsF t.n) ∧ Rd w' (some ad) (cellsM t.m)) (by kernel_rfl) (by kernel_rfl) ⟨HB.drew, M, O, ao, an, am⟩ ?_
          clear HB M O ao an am HBo Oo
          repeat (first
            | (refine' RW.val (by rfl) ?_ ?_; rotate_left; (focus (intro w' hS; obtain ⟨HB, M, O, ao, an, am⟩ := hS; obtain ⟨M0, M1, M2, M3⟩ := id M; obtain ⟨O0, O1, O2⟩ := id O; go_simp; rfl)); simp only [Act.put, List.setIfInBounds_toArray, List.set_cons_zero, List.set_cons_succ])
            | (refine RW.off (by rfl) ?_; simp only [Act.put, List.setIfInBounds_toArray, List.set_cons_zero, List.set_cons_succ]))
          refine RW.done (fun w' hS => ?_)
          obtain ⟨HB, M, O, ao, an, am⟩ := hS; obtain ⟨M0, M1, M2, M3⟩ := id M; obtain ⟨O0, O1, O2⟩ := id O
          go_upto_region 11 with fail
          by_cases hz : x.d = Vl.z
          · have z1 : x.d.k = 0 := by rw [hz]; rfl
            have z2 : x.d.b = 0 := by rw [hz]; rfl
            have z3 : x.d.t = ⟨#[]⟩ := by rw [hz]; rfl
            obtain ⟨q, hq⟩ : ∃ y, castsB f.k f.l g.k g.l = y := ⟨_, rfl⟩
            rw [hq, decide_eq_true hz] at hok
            have HC := Lib.hid hq
            clear hq hz
            cases q
            · obtain rfl : s = false := hok
              obtain rfl := HNOT.out rfl
              refine RW.start (fun w' => Below w.heap.size w w' ∧ MBox w' wr.heap.size x ∧ TBox w' w.heap.size (.slice (some od) no co) (.slice (some bd) nn cn) (.slice (some ad) nm cm) ∧ Rd w' (some od) (cellsF t.o) ∧ Rd w' (some bd) (cellsF t.n) ∧ Rd w' (some ad) (cellsM t.m)) (by kernel_rfl) (by kernel_rfl) ⟨HB.drew, M, O, ao, an, am⟩ ?_
              clear HB M O ao an am
              repeat (first
                | (refine' RW.val (by rfl) ?_ ?_; rotate_left; (focus (intro w' hS; obtain ⟨HB, M, O, ao, an, am⟩ := hS; obtain ⟨M0, M1, M2, M3⟩ := id M; obtain ⟨O0, O1, O2⟩ := id O; obtain ⟨_, eb, d0, d1, d2⟩ := an.fld HG.out; cases eb; rw [z1] at M1; rw [z2] at M2; rw [z3] at M3; obtain ⟨_, eo, f0, f1, f2⟩ := ao.fld HF.out; cases eo; go_simp; rfl)); simp only [Act.put, List.setIfInBounds_toArray, List.set_cons_zero, List.set_cons_succ])
                | (refine RW.off (by rfl) ?_; simp only [Act.put, List.setIfInBounds_toArray, List.set_cons_zero, List.set_cons_succ])
                | (refine' RW.call (by rfl) ?_ ?_ ?_
                   rotate_left 3
                   (focus (intro w' hS; obtain ⟨HB, M, O, ao, an, am⟩ := hS; obtain ⟨M0, M1, M2, M3⟩ := id M; obtain ⟨O0, O1, O2⟩ := id O; obtain ⟨_, eb, d0, d1, d2⟩ := an.fld HG.out; cases eb; rw [z1] at M1; rw [z2] at M2; rw [z3] at M3; obtain ⟨_, eo, f0, f1, f2⟩ := ao.fld HF.out; cases eo; go_simp; exact ⟨rfl, rfl⟩))
                   (focus
                     intro w' hS
                     obtain ⟨HB, M, O, ao, an, am⟩ := hS; obtain ⟨M0, M1, M2, M3⟩ := id M; obtain ⟨O0, O1, O2⟩ := id O; obtain ⟨_, eb, d0, d1, d2⟩ := an.fld HG.out; cases eb; rw [z1] at M1; rw [z2] at M2; rw [z3] at M3; obtain ⟨_, eo, f0, f1, f2⟩ := ao.fld HF.out; cases eo
                     first
                       | (refine (rCasts_is f.s g.s f.k f.l g.k g.l false HC.out _).mono ?_; rintro e w1 ⟨rfl, hb⟩; exact ⟨rfl, ⟨(below_seq HB hb), (M.below hb), (O.below hb), (ao.below hb), (an.below hb), (am.below hb)⟩⟩))
                   simp only [Act.put, List.setIfInBounds_toArray, List.set_cons_zero, List.set_cons_succ]))
              refine RW.done (fun w' hS => ?_)
              obtain ⟨HB, M, O, ao, an, am⟩ := hS; obtain ⟨M0, M1, M2, M3⟩ := id M; obtain ⟨O0, O1, O2⟩ := id O; obtain ⟨_, eb, d0, d1, d2⟩ := an.fld HG.out; cases eb; rw [z1] at M1; rw [z2] at M2; rw [z3] at M3; obtain ⟨_, eo, f0, f1, f2⟩ := ao.fld HF.out; cases eo
              go_wp2
              go_ret
              exact ⟨rfl, HB⟩
            · obtain rfl : s = true := hok
              have hall2 := HYES.out rfl
              refine RW.start (fun w' => Below w.heap.size w w' ∧ MBox w' wr.heap.size x ∧ TBox w' w.heap.size (.slice (some od) no co) (.slice (some bd) nn cn) (.slice (some ad) nm cm) ∧ Rd w' (some od) (cellsF t.o) ∧ Rd w' (some bd) (cellsF t.n) ∧ Rd w' (some ad) (cellsM t.m)) (by kernel_rfl) (by kernel_rfl) ⟨HB.drew, M, O, ao, an, am⟩ ?_
              clear HB M O ao an am
              repeat (first
                | (refine' RW.val (by rfl) ?_ ?_; rotate_left; (focus (intro w' hS; obtain ⟨HB, M, O, ao, an, am⟩ := hS; obtain ⟨M0, M1, M2, M3⟩ := id M; obtain ⟨O0, O1, O2⟩ := id O; obtain ⟨_, eb, d0, d1, d2⟩ := an.fld HG.out; cases eb; rw [z1] at M1; rw [z2] at M2; rw [z3] at M3; obtain ⟨_, eo, f0, f1, f2⟩ := ao.fld HF.out; cases eo; go_simp; rfl)); simp only [Act.put, List.setIfInBounds_toArray, List.set_cons_zero, List.set_cons_succ])
                | (refine RW.off (by rfl) ?_; simp only [Act.put, List.setIfInBounds_toArray, List.set_cons_zero, List.set_cons_succ])
                | (refine' RW.call (by rfl) ?_ ?_ ?_
                   rotate_left 3
                   (focus (intro w' hS; obtain ⟨HB, M, O, ao, an, am⟩ := hS; obtain ⟨M0, M1, M2, M3⟩ := id M; obtain ⟨O0, O1, O2⟩ := id O; obtain ⟨_, eb, d0, d1, d2⟩ := an.fld HG.out; cases eb; rw [z1] at M1; rw [z2] at M2; rw [z3] at M3; obtain ⟨_, eo, f0, f1, f2⟩ := ao.fld HF.out; cases eo; go_simp; exact ⟨rfl, rfl⟩))
                   (focus
                     intro w' hS
                     obtain ⟨HB, M, O, ao, an, am⟩ := hS; obtain ⟨M0, M1, M2, M3⟩ := id M; obtain ⟨O0, O1, O2⟩ := id O; obtain ⟨_, eb, d0, d1, d2⟩ := an.fld HG.out; cases eb; rw [z1] at M1; rw [z2] at M2; rw [z3] at M3; obtain ⟨_, eo, f0, f1, f2⟩ := ao.fld HF.out; cases eo
                     first
                       | (refine (rCasts_is f.s g.s f.k f.l g.k g.l true HC.out _).mono ?_; rintro e w1 ⟨rfl, hb⟩; exact ⟨rfl, ⟨(below_seq HB hb), (M.below hb), (O.below hb), (ao.below hb), (an.below hb), (am.below hb)⟩⟩))
                   simp only [Act.put, List.setIfInBounds_toArray, List.set_cons_zero, List.set_cons_succ]))
              refine RW.done (fun w' hS => ?_)
              obtain ⟨HB, M, O, ao, an, am⟩ := hS; obtain ⟨M0, M1, M2, M3⟩ := id M; obtain ⟨O0, O1, O2⟩ := id O; obtain ⟨_, eb, d0, d1, d2⟩ := an.fld HG.out; cases eb; rw [z1] at M1; rw [z2] at M2; rw [z3] at M3; obtain ⟨_, eo, f0, f1, f2⟩ := ao.fld HF.out; cases eo
              go_wp2
              go_roundw
              case rel => exact ⟨k + 1, by omega, by go_num, HB, ao, an, am, O, hall2⟩
              case measure => simp [intOf]; omega
          · obtain rfl : s = false := by rw [hok, decide_eq_false hz]; rfl
            obtain rfl := HNOT.out rfl
            have hways := vl_ways hz
            clear hok hz
            rcases hways with z1 | ⟨z1, z2⟩ | ⟨z1, z2, z3⟩
            · skip
              refine RW.start (fun w' => Below w.heap.size w w' ∧ MBox w' wr.heap.size x ∧ TBox w' w.heap.size (.slice (some od) no co) (.slice (some bd) nn cn) (.slice (some ad) nm cm) ∧ Rd w' (some od) (cellsF t.o) ∧ Rd w' (some bd) (cellsF t.n) ∧ Rd w' (some ad) (cellsM t.m)) (by kernel_rfl) (by kernel_rfl) ⟨HB.drew, M, O, ao, an, am⟩ ?_
              clear HB M O ao an am
              repeat (first
                | (refine' RW.val (by rfl) ?_ ?_; rotate_left; (focus (intro w' hS; obtain ⟨HB, M, O, ao, an, am⟩ := hS; obtain ⟨M0, M1, M2, M3⟩ := id M; obtain ⟨O0, O1, O2⟩ := id O; go_simp; rfl)); simp only [Act.put, List.setIfInBounds_toArray, List.set_cons_zero, List.set_cons_succ])
                | (refine RW.off (by rfl) ?_; simp only [Act.put, List.setIfInBounds_toArray, List.set_cons_zero, List.set_cons_succ]))
              refine RW.done (fun w' hS => ?_)
              obtain ⟨HB, M, O, ao, an, am⟩ := hS; obtain ⟨M0, M1, M2, M3⟩ := id M; obtain ⟨O0, O1, O2⟩ := id O
              go_wp2
              go_ret
              exact ⟨rfl, HB⟩
            · skip
              refine RW.start (fun w' => Below w.heap.size w w' ∧ MBox w' wr.heap.size x ∧ TBox w' w.heap.size (.slice (some od) no co) (.slice (some bd) nn cn) (.slice (some ad) nm cm) ∧ Rd w' (some od) (cellsF t.o) ∧ Rd w' (some bd) (cellsF t.n) ∧ Rd w' (some ad) (cellsM t.m)) (by kernel_rfl) (by kernel_rfl) ⟨HB.drew, M, O, ao, an, am⟩ ?_
              clear HB M O ao an am
              repeat (first
                | (refine' RW.val (by rfl) ?_ ?_; rotate_left; (focus (intro w' hS; obtain ⟨HB, M, O, ao, an, am⟩ := hS; obtain ⟨M0, M1, M2, M3⟩ := id M; obtain ⟨O0, O1, O2⟩ := id O; go_simp; rfl)); simp only [Act.put, List.setIfInBounds_toArray, List.set_cons_zero, List.set_cons_succ])
                | (refine RW.off (by rfl) ?_; simp only [Act.put, List.setIfInBounds_toArray, List.set_cons_zero, List.set_cons_succ]))
              refine RW.done (fun w' hS => ?_)
              obtain ⟨HB, M, O, ao, an, am⟩ := hS; obtain ⟨M0, M1, M2, M3⟩ := id M; obtain ⟨O0, O1, O2⟩ := id O
              go_wp2
              go_ret
              exact ⟨rfl, HB⟩
            · skip
              refine RW.start (fun w' => Below w.heap.size w w' ∧ MBox w' wr.heap.size x ∧ TBox w' w.heap.size (.slice (some od) no co) (.slice (some bd) nn cn) (.slice (some ad) nm cm) ∧ Rd w' (some od) (cellsF t.o) ∧ Rd w' (some bd) (cellsF t.n) ∧ Rd w' (some ad) (cellsM t.m)) (by kernel_rfl) (by kernel_rfl) ⟨HB.drew, M, O, ao, an, am⟩ ?_
              clear HB M O ao an am
              repeat (first
                | (refine' RW.val (by rfl) ?_ ?_; rotate_left; (focus (intro w' hS; obtain ⟨HB, M, O, ao, an, am⟩ := hS; obtain ⟨M0, M1, M2, M3⟩ := id M; obtain ⟨O0, O1, O2⟩ := id O; go_simp; rfl)); simp only [Act.put, List.setIfInBounds_toArray, List.set_cons_zero, List.set_cons_succ])
                | (refine RW.off (by rfl) ?_; simp only [Act.put, List.setIfInBounds_toArray, List.set_cons_zero, List.set_cons_succ]))
              refine RW.done (fun w' hS => ?_)
              obtain ⟨HB, M, O, ao, an, am⟩ := hS; obtain ⟨M0, M1, M2, M3⟩ := id M; obtain ⟨O0, O1, O2⟩ := id O
              go_wp2
              go_ret
              exact ⟨rfl, HB⟩
      · obtain rfl : k = nm := by omega
        obtain rfl : r = true := by
          rw [HRR.out, decide_eq_true HL.out, decide_eq_true hall.out]; rfl
        go_wp2
        go_ret
        exact ⟨rfl, HB⟩
  · have hz : ((nm : Int) != (nn : Int)) = true := by simp; omega
    obtain rfl : r = false := by rw [HRR.out, decide_eq_false hlen]; rfl
    clear hlen
    go_enter Try.func62, Try.ntmps62
    go_wp2_with (first
      | (have _t := tok1; go_at_call 17; refine (rRight_m Ao co no t.o HNO.out true HR1.out _ ao l0 SO.out).mono ?_; rintro e wM ⟨rfl, hb⟩; replace HB := HB.trans (hb.mono HB.size); replace an := an.below hb; replace am := am.below hb; replace O := O.below hb; obtain ⟨O0, O1, O2⟩ := id O; clear hb tok1; have tok2 := True.intro)
      | (have _t := tok2; go_at_call 17; refine (rRight_m An cn nn t.n HNN.out true HR2.out _ an l1 SN.out).mono ?_; rintro e wM ⟨rfl, hb⟩; replace HB := HB.trans (hb.mono HB.size); replace O := O.below hb; obtain ⟨O0, O1, O2⟩ := id O; clear hb tok2; have tok3 := True.intro))
    go_ret
    exact ⟨rfl, HB⟩
end Go.Proofs.Ytehcpjodkadfnaa
