/- Merged out of: Md Me. -/
import Derived.Test.YtehcpjodkadfnaaGreatUm
import Derived.BigRegion
/- Layers 7 and 8 of the heap, tables, fourth part: whether rows of fields are alike, by slices.Equal. -/
set_option linter.unusedSimpArgs false
set_option linter.unusedVariables false
set_option maxRecDepth 100000
namespace Go.Proofs.YtehcpjodkadfnaaGreat
open Go.RowKit

set_option maxHeartbeats 4000000 in
theorem SlEqual_calls (A B : Option Addr) (c d : Nat) (a b : List Fd) (w : World) (hA : Rd w A (cellsF a)) (hB : Rd w B (cellsF b)) (ha : a.length ≤ 9223372036854775807) (hb : b.length ≤ 9223372036854775807) :
    Calls Tryz.prog 47 #[.slice A a.length c, .slice B b.length d] w fun e w' => e = .returned (.bool (sameFB a b)) ∧ Below w.heap.size w w' := by
  by_cases hlen : a.length = b.length
  · have hz : ((a.length : Int) != (b.length : Int)) = false := by rw [hlen]; simp
    obtain ⟨r, hr⟩ : ∃ r, sameFB a b = r := ⟨_, rfl⟩
    rw [hr]
    have HR := Lib.hid hr
    have HL := Lib.hid hlen
    clear hr
    obtain ⟨m, hm⟩ : ∃ m, b.length = m := ⟨_, rfl⟩
    rw [hm] at hz hlen ⊢
    have HM := Lib.hid hm
    clear hm hlen hb
    go_enter Tryz.func47, Tryz.ntmps47
    go_wp2
    go_loopw [5, 13] (fun _ i wr => ∃ k : Nat, k ≤ a.length ∧ i = .int .i64 k ∧ Below w.heap.size w wr ∧ Hid (a.take k = b.take k)) (fun _ i _ => a.length - (intOf i).toNat)
    case atStart => exact ⟨0, by omega, rfl, Below.refl _ _, Lib.hid rfl⟩
    case round =>
      obtain ⟨k, hk, rfl, HB, hall⟩ := hrel
      have hAr := hA.below HB
      have hBr := hB.below HB
      clear hA hB
      by_cases hlt : k < a.length
      · have hlb : k < m := by have := HL.out; have := HM.out; omega
        obtain ⟨x, hx⟩ : ∃ x, a[k]? = some x := ⟨_, List.getElem?_eq_getElem hlt⟩
        obtain ⟨y, hy⟩ : ∃ y, b[k]? = some y := ⟨_, List.getElem?_eq_getElem (by rw [HM.out]; exact hlb)⟩
        obtain ⟨ad, rfl, c0, c1, c2⟩ := hAr.fld hx
        obtain ⟨bd, rfl, d0, d1, d2⟩ := hBr.fld hy
        have HX := Lib.hid hx
        have HY := Lib.hid hy
        clear hx hy hAr hBr
        have hi0 : (0 : Int) ≤ (k : Int) := by omega
        have hi1 : (k : Int) < (a.length : Int) := by omega
        have hi2 : (k : Int) < (m : Int) := by omega
        go_wp2
        rcases fd_ways x y with ⟨hne, h1⟩ | ⟨hne, h1, h2⟩ | ⟨hne, h1, h2, h3⟩ | ⟨he, h1, h2, h3⟩
        · obtain rfl : r = false := by
            rw [← HR.out]; simp [sameFB]; intro e
            have h1 := HX.out; rw [e, HY.out] at h1; exact hne (Option.some.inj h1).symm
          clear hne hall
          refine RW.start (fun w' => Below w.heap.size w w' ∧ (w'.cell? (ad.add (k * 3)) = some (.string x.s) ∧ w'.cell? ⟨(ad.add (k * 3)).block, (ad.add (k * 3)).off + (0 + 1), none⟩ = some (.int .i64 x.k) ∧ w'.cell? ⟨(ad.add (k * 3)).block, (ad.add (k * 3)).off + (1 + 1), none⟩ = some (.int .i64 x.l)) ∧ (w'.cell? (bd.add (k * 3)) = some (.string y.s) ∧ w'.cell? ⟨(bd.add (k * 3)).block, (bd.add (k * 3)).off + (0 + 1), none⟩ = some (.int .i64 y.k) ∧ w'.cell? ⟨(bd.add (k * 3)).block, (bd.add (k * 3)).off + (1 + 1), none⟩ = some (.int .i64 y.l))) (by kernel_rfl) (by kernel_rfl) ⟨HB.drew, ⟨c0, c1, c2⟩, d0, d1, d2⟩ ?_
          clear HB c0 c1 c2 d0 d1 d2
          repeat (first
            | (refine' RW.val (by rfl) ?_ ?_; rotate_left; (focus (intro w' hS; obtain ⟨HB, ⟨c0, c1, c2⟩, d0, d1, d2⟩ := hS; go_simp; rfl)); simp only [Act.put, List.setIfInBounds_toArray, List.set_cons_zero, List.set_cons_succ])
            | (refine RW.off (by rfl) ?_; simp only [Act.put, List.setIfInBounds_toArray, List.set_cons_zero, List.set_cons_succ]))
          refine RW.done (fun w' hS => ?_)
          obtain ⟨HB, ⟨c0, c1, c2⟩, d0, d1, d2⟩ := hS
          go_wp2
          go_ret
          exact ⟨rfl, HB⟩
        · obtain rfl : r = false := by
            rw [← HR.out]; simp [sameFB]; intro e
            have h1 := HX.out; rw [e, HY.out] at h1; exact hne (Option.some.inj h1).symm
          clear hne hall
          refine RW.start (fun w' => Below w.heap.size w w' ∧ (w'.cell? (ad.add (k * 3)) = some (.string x.s) ∧ w'.cell? ⟨(ad.add (k * 3)).block, (ad.add (k * 3)).off + (0 + 1), none⟩ = some (.int .i64 x.k) ∧ w'.cell? ⟨(ad.add (k * 3)).block, (ad.add (k * 3)).off + (1 + 1), none⟩ = some (.int .i64 x.l)) ∧ (w'.cell? (bd.add (k * 3)) = some (.string y.s) ∧ w'.cell? ⟨(bd.add (k * 3)).block, (bd.add (k * 3)).off + (0 + 1), none⟩ = some (.int .i64 y.k) ∧ w'.cell? ⟨(bd.add (k * 3)).block, (bd.add (k * 3)).off + (1 + 1), none⟩ = some (.int .i64 y.l))) (by kernel_rfl) (by kernel_rfl) ⟨HB.drew, ⟨c0, c1, c2⟩, d0, d1, d2⟩ ?_
          clear HB c0 c1 c2 d0 d1 d2
          repeat (first
            | (refine' RW.val (by rfl) ?_ ?_; rotate_left; (focus (intro w' hS; obtain ⟨HB, ⟨c0, c1, c2⟩, d0, d1, d2⟩ := hS; go_simp; rfl)); simp only [Act.put, List.setIfInBounds_toArray, List.set_cons_zero, List.set_cons_succ])
            | (refine RW.off (by rfl) ?_; simp only [Act.put, List.setIfInBounds_toArray, List.set_cons_zero, List.set_cons_succ]))
          refine RW.done (fun w' hS => ?_)
          obtain ⟨HB, ⟨c0, c1, c2⟩, d0, d1, d2⟩ := hS
          go_wp2
          go_ret
          exact ⟨rfl, HB⟩
        · obtain rfl : r = false := by
            rw [← HR.out]; simp [sameFB]; intro e
            have h1 := HX.out; rw [e, HY.out] at h1; exact hne (Option.some.inj h1).symm
          clear hne hall
          refine RW.start (fun w' => Below w.heap.size w w' ∧ (w'.cell? (ad.add (k * 3)) = some (.string x.s) ∧ w'.cell? ⟨(ad.add (k * 3)).block, (ad.add (k * 3)).off + (0 + 1), none⟩ = some (.int .i64 x.k) ∧ w'.cell? ⟨(ad.add (k * 3)).block, (ad.add (k * 3)).off + (1 + 1), none⟩ = some (.int .i64 x.l)) ∧ (w'.cell? (bd.add (k * 3)) = some (.string y.s) ∧ w'.cell? ⟨(bd.add (k * 3)).block, (bd.add (k * 3)).off + (0 + 1), none⟩ = some (.int .i64 y.k) ∧ w'.cell? ⟨(bd.add (k * 3)).block, (bd.add (k * 3)).off + (1 + 1), none⟩ = some (.int .i64 y.l))) (by kernel_rfl) (by kernel_rfl) ⟨HB.drew, ⟨c0, c1, c2⟩, d0, d1, d2⟩ ?_
          clear HB c0 c1 c2 d0 d1 d2
          repeat (first
            | (refine' RW.val (by rfl) ?_ ?_; rotate_left; (focus (intro w' hS; obtain ⟨HB, ⟨c0, c1, c2⟩, d0, d1, d2⟩ := hS; go_simp; rfl)); simp only [Act.put, List.setIfInBounds_toArray, List.set_cons_zero, List.set_cons_succ])
            | (refine RW.off (by rfl) ?_; simp only [Act.put, List.setIfInBounds_toArray, List.set_cons_zero, List.set_cons_succ]))
          refine RW.done (fun w' hS => ?_)
          obtain ⟨HB, ⟨c0, c1, c2⟩, d0, d1, d2⟩ := hS
          go_wp2
          go_ret
          exact ⟨rfl, HB⟩
        · have hall2 : Hid (a.take (k + 1) = b.take (k + 1)) := Lib.hid (by rw [List.take_add_one, List.take_add_one, hall.out, HX.out, HY.out, he])
          clear he hall
          refine RW.start (fun w' => Below w.heap.size w w' ∧ (w'.cell? (ad.add (k * 3)) = some (.string x.s) ∧ w'.cell? ⟨(ad.add (k * 3)).block, (ad.add (k * 3)).off + (0 + 1), none⟩ = some (.int .i64 x.k) ∧ w'.cell? ⟨(ad.add (k * 3)).block, (ad.add (k * 3)).off + (1 + 1), none⟩ = some (.int .i64 x.l)) ∧ (w'.cell? (bd.add (k * 3)) = some (.string y.s) ∧ w'.cell? ⟨(bd.add (k * 3)).block, (bd.add (k * 3)).off + (0 + 1), none⟩ = some (.int .i64 y.k) ∧ w'.cell? ⟨(bd.add (k * 3)).block, (bd.add (k * 3)).off + (1 + 1), none⟩ = some (.int .i64 y.l))) (by kernel_rfl) (by kernel_rfl) ⟨HB.drew, ⟨c0, c1, c2⟩, d0, d1, d2⟩ ?_
          clear HB c0 c1 c2 d0 d1 d2
          repeat (first
            | (refine' RW.val (by rfl) ?_ ?_; rotate_left; (focus (intro w' hS; obtain ⟨HB, ⟨c0, c1, c2⟩, d0, d1, d2⟩ := hS; go_simp; rfl)); simp only [Act.put, List.setIfInBounds_toArray, List.set_cons_zero, List.set_cons_succ])
            | (refine RW.off (by rfl) ?_; simp only [Act.put, List.setIfInBounds_toArray, List.set_cons_zero, List.set_cons_succ]))
          refine RW.done (fun w' hS => ?_)
          obtain ⟨HB, ⟨c0, c1, c2⟩, d0, d1, d2⟩ := hS
          go_wp2
          go_roundw
          case rel => exact ⟨k + 1, by omega, by go_num, HB, hall2⟩
          case measure => simp [intOf]; omega
      · obtain rfl : k = a.length := by omega
        obtain rfl : r = true := by
          rw [← HR.out]; have h := hall.out
          rw [List.take_length, HL.out, List.take_length] at h
          simpa [sameFB] using h
        clear hAr hBr
        go_wp2
        go_ret
        exact ⟨rfl, HB⟩
  · have hz : ((a.length : Int) != (b.length : Int)) = true := by simp; omega
    have hr : sameFB a b = false := by simp [sameFB]; intro e; exact hlen (by rw [e])
    rw [hr]
    clear hr hlen
    go_enter Tryz.func47, Tryz.ntmps47
    go_wp2
    go_ret
    exact ⟨rfl, Below.refl _ _⟩
theorem SlEqual_m (A B : Option Addr) (c d m n : Nat) (a b : List Fd) (ha : a.length = m) (hb : b.length = n) (r : Bool) (hr : sameFB a b = r) (w : World) (hA : Rd w A (cellsF a)) (hB : Rd w B (cellsF b)) (hm : m ≤ 9223372036854775807) (hn : n ≤ 9223372036854775807) :
    Calls Tryz.prog 47 #[.slice A m c, .slice B n d] w fun e w' => e = .returned (.bool r) ∧ Below w.heap.size w w' := by
  subst ha hb hr; exact SlEqual_calls A B c d a b w hA hB hm hn
end Go.Proofs.YtehcpjodkadfnaaGreat
/- Layers 7 and 8 of the heap, tables, fifth part: whether a move may be, as the program asks it. -/
set_option linter.unusedSimpArgs false
set_option linter.unusedVariables false
set_option maxRecDepth 100000
namespace Go.Proofs.YtehcpjodkadfnaaGreat
open Go.RowKit

/-- a box of a move -/
def MBox (w : World) (b : Nat) (m : Mv) : Prop := w.cell? ⟨b, 0, none⟩ = some (.int .i64 m.f) ∧ w.cell? ⟨b, 1, none⟩ = some (.int .i64 m.d.k) ∧ w.cell? ⟨b, 2, none⟩ = some (.int .u64 m.d.b) ∧ w.cell? ⟨b, 3, none⟩ = some (.string m.d.t)
theorem MBox.below {w w1 : World} {b : Nat} {m : Mv} (h : MBox w b m) (hb : Below w.heap.size w w1) : MBox w1 b m := ⟨cell_below (B := 0) hb h.1, cell_below (B := 0) hb h.2.1, cell_below (B := 0) hb h.2.2.1, cell_below (B := 0) hb h.2.2.2⟩
theorem ByteArray.toList_nil_beq (t : ByteArray) : (t.toList == (⟨#[]⟩ : ByteArray).toList) = (t.toList == []) := by
  rw [ByteArray.toList_eq (⟨#[]⟩ : ByteArray)]
theorem cell_allocs {w : World} {a : Addr} {v : Value} (h : w.cell? a = some v) : (∀ o, (w.alloc o).cell? a = some v) ∧ ∀ o o', ((w.alloc o).alloc o').cell? a = some v :=
  ⟨fun o => cell_below (B := 0) (below_new o) h, fun o o' => cell_below (B := 0) (below_new o') (cell_below (B := 0) (below_new o) h)⟩
set_option maxHeartbeats 4000000 in
theorem Right1_is (bp : Nat) (t : Tb) (Ao An Am : Option Addr) (co cn cm no nn nm : Nat) (hno : t.o.length = no) (hnn : t.n.length = nn) (hnm : t.m.length = nm) (l0 : no ≤ 9223372036854775807) (k : Nat) (x : Mv) (g : Fd) (hx : t.m[k]? = some x) (hg : t.n[k]? = some g) (b0 : 0 ≤ x.d.b) (b1 : x.d.b < 18446744073709551616)
    (w : World) (O : TBox w bp (.slice Ao no co) (.slice An nn cn) (.slice Am nm cm)) (ao : Rd w Ao (cellsF t.o)) (an : Rd w An (cellsF t.n)) (am : Rd w Am (cellsM t.m)) :
    Calls Tryz.prog 48 #[.int .i64 (k : Int), .pointer (some ⟨bp, 0, none⟩)] w fun e w' => e = .returned (.bool (okMv t.o g x)) ∧ Below w.heap.size w w' := by
  obtain ⟨r, hr⟩ : ∃ r, okMv t.o g x = r := ⟨_, rfl⟩
  rw [hr]
  have hk1 : k < nn := by rw [← hnn]; exact (List.getElem?_eq_some_iff.1 hg).1
  have hk2 : k < nm := by rw [← hnm]; exact (List.getElem?_eq_some_iff.1 hx).1
  obtain ⟨ad, ea, c0, c1, c2, c3⟩ := am.mv hx
  obtain ⟨bd, eb, d0, d1, d2⟩ := an.fld hg
  subst ea eb
  obtain ⟨O0, O1, O2⟩ := id O
  have HR := Lib.hid hr
  have HNO := Lib.hid hno
  have hi0 : (0 : Int) ≤ (k : Int) := by omega
  have hi1 : (k : Int) < (nn : Int) := by omega
  have hi2 : (k : Int) < (nm : Int) := by omega
  clear hr hno hnn hnm hx hg an am
  go_enter Tryz.func48, Tryz.ntmps48
  go_upto_region 1 with fail
  go_cut [4, 5] (fun s4 s5 wx => ∃ p q : Nat, s4 = .pointer (some ⟨p, 0, none⟩) ∧ s5 = .pointer (some ⟨q, 0, none⟩) ∧ MBox wx p x ∧ FBox wx q g.s g.k g.l ∧ Below w.heap.size w wx)
  case first =>
    obtain ⟨x0, y0⟩ := cell_allocs c0
    obtain ⟨x1, y1⟩ := cell_allocs c1
    obtain ⟨x2, y2⟩ := cell_allocs c2
    obtain ⟨x3, y3⟩ := cell_allocs c3
    obtain ⟨x4, y4⟩ := cell_allocs d0
    obtain ⟨x5, y5⟩ := cell_allocs d1
    obtain ⟨x6, y6⟩ := cell_allocs d2
    obtain ⟨x7, y7⟩ := cell_allocs O1
    obtain ⟨x8, y8⟩ := cell_allocs O2
    go_region
    have HB := Below.refl w.heap.size w
    all_goals (go_wp2_with fail; go_meet; refine ⟨_, _, rfl, rfl, ⟨?_, ?_, ?_, ?_⟩, ⟨?_, ?_, ?_⟩, ?_⟩)
    all_goals first
      | (simp [World.cell?_alloc_new]; done)
      | (have HB := Below.refl w.heap.size w; (repeat (first | exact HB | refine Below.setCell ?_ (by dsimp only; omega) _ | refine Below.alloc ?_ (by have hs_ := HB.size; first | (simp; done) | (simp; omega) | omega) _ | apply Below.drew)))
  case rest =>
    obtain ⟨p, q, rfl, rfl, M, F, HB⟩ := hcut
    replace O := O.below HB
    replace ao := ao.below HB
    clear c0 c1 c2 c3 d0 d1 d2 O0 O1 O2
    obtain ⟨M0, M1, M2, M3⟩ := id M
    obtain ⟨F0, F1, F2⟩ := id F
    obtain ⟨O0, O1, O2⟩ := id O
    by_cases hf : x.f = -1
    · have hfb : (x.f == -1) = true := by simp [hf]
      have hok : r = (rightB x.d.k x.d.b x.d.t g.k g.l && (decide (g.k ≠ 11) || decide (x.d.b = 0))) := by rw [← HR.out, okMv, if_pos hf]
      obtain ⟨r1, hr1⟩ : ∃ y, rightB x.d.k x.d.b x.d.t g.k g.l = y := ⟨_, rfl⟩
      rw [hr1] at hok
      have HR1 := Lib.hid hr1
      clear hr1 hf
      cases r1
      · obtain rfl : r = false := hok
        go_wp2_with (go_at_call 49; refine (Right_is x.d.k x.d.b x.d.t g.s g.k g.l b0 b1 false HR1.out _).mono ?_; rintro e wM ⟨rfl, hb⟩; replace HB := HB.trans (hb.mono HB.size); replace F := F.below hb; obtain ⟨F0, F1, F2⟩ := id F; clear hb)
        go_ret
        exact ⟨rfl, HB⟩
      · by_cases hk : g.k = 11
        · have hk1 : (g.k != 11) = false := by simp [hk]
          by_cases hb : x.d.b = 0
          · have hb1 : (x.d.b == 0) = true := by simp [hb]
            obtain rfl : r = true := by rw [hok]; simp [hb]
            clear hok hk hb
            go_wp2_with (go_at_call 49; refine (Right_is x.d.k x.d.b x.d.t g.s g.k g.l b0 b1 true HR1.out _).mono ?_; rintro e wM ⟨rfl, hb⟩; replace HB := HB.trans (hb.mono HB.size); obtain ⟨F0, F1, F2⟩ := F.below hb; obtain ⟨M0, M1, M2, M3⟩ := M.below hb; clear hb)
            go_ret
            exact ⟨rfl, HB⟩
          · have hb1 : (x.d.b == 0) = false := by simp [hb]
            obtain rfl : r = false := by rw [hok]; simp [hb, hk]
            clear hok hk hb
            go_wp2_with (go_at_call 49; refine (Right_is x.d.k x.d.b x.d.t g.s g.k g.l b0 b1 true HR1.out _).mono ?_; rintro e wM ⟨rfl, hb⟩; replace HB := HB.trans (hb.mono HB.size); obtain ⟨F0, F1, F2⟩ := F.below hb; obtain ⟨M0, M1, M2, M3⟩ := M.below hb; clear hb)
            go_ret
            exact ⟨rfl, HB⟩
        · have hk1 : (g.k != 11) = true := by simp [hk]
          obtain rfl : r = true := by rw [hok]; simp [hk]
          clear hok hk
          go_wp2_with (go_at_call 49; refine (Right_is x.d.k x.d.b x.d.t g.s g.k g.l b0 b1 true HR1.out _).mono ?_; rintro e wM ⟨rfl, hb⟩; replace HB := HB.trans (hb.mono HB.size); obtain ⟨F0, F1, F2⟩ := F.below hb; obtain ⟨M0, M1, M2, M3⟩ := M.below hb; clear hb)
          go_ret
          exact ⟨rfl, HB⟩
    · have hfb : (x.f == -1) = false := by simp [hf]
      have hok : r = (decide (0 ≤ x.f) && (match t.o[x.f.toNat]? with | none => false | some f => decide (x.d = Vl.z) && castsB f.k f.l g.k g.l)) := by rw [← HR.out, okMv, if_neg hf]; rfl
      clear hf
      go_upto_region 4 with fail
      by_cases h0 : 0 ≤ x.f
      · have h01 : decide ((0 : Int) ≤ x.f) = true := by simpa using h0
        by_cases h1 : x.f < (no : Int)
        · obtain ⟨f, hf⟩ : ∃ f, t.o[x.f.toNat]? = some f := ⟨_, List.getElem?_eq_getElem (by rw [HNO.out]; omega)⟩
          have h11 : decide (x.f < (no : Int)) = true := by simpa using h1
          rw [hf] at hok
          have HF := Lib.hid hf
          clear hf
          by_cases hz : x.d = Vl.z
          · have hr : castsB f.k f.l g.k g.l = r := by rw [hok]; simp [h0, hz]
            have HC := Lib.hid hr
            obtain ⟨od, eo, f0, f1, f2⟩ := ao.fld HF.out
            subst eo
            have z1 : x.d.k = 0 := by rw [hz]; rfl
            have z2 : x.d.b = 0 := by rw [hz]; rfl
            have z3 : x.d.t = ⟨#[]⟩ := by rw [hz]; rfl
            clear hok hr hz
            clear f0 f1 f2 M0 M1 M2 M3 F0 F1 F2 O0 O1 O2
            refine RW.start (fun w' => Below w.heap.size w w' ∧ MBox w' p x ∧ FBox w' q g.s g.k g.l ∧ TBox w' bp (.slice (some od) no co) (.slice (some bd) nn cn) (.slice (some ad) nm cm) ∧ Rd w' (some od) (cellsF t.o)) (by kernel_rfl) (by kernel_rfl) ⟨HB.drew, M, F, O, ao⟩ ?_
            clear HB M F O ao
            repeat (first
              | (refine' RW.val (by rfl) ?_ ?_; rotate_left; (focus (intro w' hS; obtain ⟨HB, M, F, O, ao⟩ := hS; obtain ⟨M0, M1, M2, M3⟩ := id M; obtain ⟨F0, F1, F2⟩ := id F; obtain ⟨O0, O1, O2⟩ := id O; rw [z1] at M1; rw [z2] at M2; rw [z3] at M3; obtain ⟨_, eo, f0, f1, f2⟩ := ao.fld HF.out; cases eo; go_simp; rfl)); simp only [Act.put, List.setIfInBounds_toArray, List.set_cons_zero, List.set_cons_succ])
              | (refine RW.off (by rfl) ?_; simp only [Act.put, List.setIfInBounds_toArray, List.set_cons_zero, List.set_cons_succ])
              | (refine' RW.call (by rfl) ?_ ?_ ?_
                 rotate_left 3
                 (focus (intro w' hS; obtain ⟨HB, M, F, O, ao⟩ := hS; obtain ⟨M0, M1, M2, M3⟩ := id M; obtain ⟨F0, F1, F2⟩ := id F; obtain ⟨O0, O1, O2⟩ := id O; rw [z1] at M1; rw [z2] at M2; rw [z3] at M3; obtain ⟨_, eo, f0, f1, f2⟩ := ao.fld HF.out; cases eo; go_simp; exact ⟨rfl, rfl⟩))
                 (focus
                   intro w' hS
                   obtain ⟨HB, M, F, O, ao⟩ := hS; obtain ⟨M0, M1, M2, M3⟩ := id M; obtain ⟨F0, F1, F2⟩ := id F; obtain ⟨O0, O1, O2⟩ := id O; rw [z1] at M1; rw [z2] at M2; rw [z3] at M3; obtain ⟨_, eo, f0, f1, f2⟩ := ao.fld HF.out; cases eo
                   first
                     | (refine (Casts_is f.s g.s f.k f.l g.k g.l r HC.out _).mono ?_; rintro e w1 ⟨rfl, hb⟩; exact ⟨rfl, ⟨(below_seq HB hb), (M.below hb), (F.below hb), (O.below hb), (ao.below hb)⟩⟩))
                 simp only [Act.put, List.setIfInBounds_toArray, List.set_cons_zero, List.set_cons_succ]))
            refine RW.done (fun w' hS => ?_)
            obtain ⟨HB, M, F, O, ao⟩ := hS; obtain ⟨M0, M1, M2, M3⟩ := id M; obtain ⟨F0, F1, F2⟩ := id F; obtain ⟨O0, O1, O2⟩ := id O; rw [z1] at M1; rw [z2] at M2; rw [z3] at M3; obtain ⟨_, eo, f0, f1, f2⟩ := ao.fld HF.out; cases eo
            go_wp2
            go_ret
            exact ⟨rfl, HB⟩
          · obtain rfl : r = false := by rw [hok]; simp [hz]
            have hw : (x.d.k == 0) = false ∨ ((x.d.k == 0) = true ∧ (x.d.b == 0) = false) ∨ ((x.d.k == 0) = true ∧ (x.d.b == 0) = true ∧ (x.d.t.toList == []) = false) := by
              rw [← ByteArray.toList_nil_beq x.d.t]
              obtain ⟨xf, ⟨dk, db, dt⟩⟩ := x
              by_cases e1 : dk = 0
              · by_cases e2 : db = 0
                · refine .inr (.inr ⟨by simp [e1], by simp [e2], ?_⟩)
                  rw [name_beq]
                  exact decide_eq_false fun e3 => hz (by have e3 : dt = _ := e3; show (⟨dk, db, dt⟩ : Vl) = Vl.z; rw [e1, e2, e3]; rfl)
                · exact .inr (.inl ⟨by simp [e1], by simp [e2]⟩)
              · exact .inl (by simp [e1])
            clear hok hz
            rcases hw with z1 | ⟨z1, z2⟩ | ⟨z1, z2, z3⟩
            · skip
              refine RW.start (fun w' => Below w.heap.size w w' ∧ MBox w' p x ∧ FBox w' q g.s g.k g.l ∧ TBox w' bp (.slice Ao no co) (.slice (some bd) nn cn) (.slice (some ad) nm cm)) (by kernel_rfl) (by kernel_rfl) ⟨HB.drew, M, F, O⟩ ?_
              clear HB M F O
              repeat (first
                | (refine' RW.val (by rfl) ?_ ?_; rotate_left; (focus (intro w' hS; obtain ⟨HB, M, F, O⟩ := hS; obtain ⟨M0, M1, M2, M3⟩ := id M; obtain ⟨F0, F1, F2⟩ := id F; obtain ⟨O0, O1, O2⟩ := id O; go_simp; rfl)); simp only [Act.put, List.setIfInBounds_toArray, List.set_cons_zero, List.set_cons_succ])
                | (refine RW.off (by rfl) ?_; simp only [Act.put, List.setIfInBounds_toArray, List.set_cons_zero, List.set_cons_succ]))
              refine RW.done (fun w' hS => ?_)
              obtain ⟨HB, M, F, O⟩ := hS; obtain ⟨M0, M1, M2, M3⟩ := id M; obtain ⟨F0, F1, F2⟩ := id F; obtain ⟨O0, O1, O2⟩ := id O
              go_wp2
              go_ret
              exact ⟨rfl, HB⟩
            · skip
              refine RW.start (fun w' => Below w.heap.size w w' ∧ MBox w' p x ∧ FBox w' q g.s g.k g.l ∧ TBox w' bp (.slice Ao no co) (.slice (some bd) nn cn) (.slice (some ad) nm cm)) (by kernel_rfl) (by kernel_rfl) ⟨HB.drew, M, F, O⟩ ?_
              clear HB M F O
              repeat (first
                | (refine' RW.val (by rfl) ?_ ?_; rotate_left; (focus (intro w' hS; obtain ⟨HB, M, F, O⟩ := hS; obtain ⟨M0, M1, M2, M3⟩ := id M; obtain ⟨F0, F1, F2⟩ := id F; obtain ⟨O0, O1, O2⟩ := id O; go_simp; rfl)); simp only [Act.put, List.setIfInBounds_toArray, List.set_cons_zero, List.set_cons_succ])
                | (refine RW.off (by rfl) ?_; simp only [Act.put, List.setIfInBounds_toArray, List.set_cons_zero, List.set_cons_succ]))
              refine RW.done (fun w' hS => ?_)
              obtain ⟨HB, M, F, O⟩ := hS; obtain ⟨M0, M1, M2, M3⟩ := id M; obtain ⟨F0, F1, F2⟩ := id F; obtain ⟨O0, O1, O2⟩ := id O
              go_wp2
              go_ret
              exact ⟨rfl, HB⟩
            · skip
              refine RW.start (fun w' => Below w.heap.size w w' ∧ MBox w' p x ∧ FBox w' q g.s g.k g.l ∧ TBox w' bp (.slice Ao no co) (.slice (some bd) nn cn) (.slice (some ad) nm cm)) (by kernel_rfl) (by kernel_rfl) ⟨HB.drew, M, F, O⟩ ?_
              clear HB M F O
              repeat (first
                | (refine' RW.val (by rfl) ?_ ?_; rotate_left; (focus (intro w' hS; obtain ⟨HB, M, F, O⟩ := hS; obtain ⟨M0, M1, M2, M3⟩ := id M; obtain ⟨F0, F1, F2⟩ := id F; obtain ⟨O0, O1, O2⟩ := id O; go_simp; rfl)); simp only [Act.put, List.setIfInBounds_toArray, List.set_cons_zero, List.set_cons_succ])
                | (refine RW.off (by rfl) ?_; simp only [Act.put, List.setIfInBounds_toArray, List.set_cons_zero, List.set_cons_succ]))
              refine RW.done (fun w' hS => ?_)
              obtain ⟨HB, M, F, O⟩ := hS; obtain ⟨M0, M1, M2, M3⟩ := id M; obtain ⟨F0, F1, F2⟩ := id F; obtain ⟨O0, O1, O2⟩ := id O
              go_wp2
              go_ret
              exact ⟨rfl, HB⟩
        · obtain rfl : r = false := by
            rw [hok, List.getElem?_eq_none (by rw [HNO.out]; omega)]; simp
          have h11 : decide (x.f < (no : Int)) = false := by simpa using h1
          clear hok h1
          refine RW.start (fun w' => Below w.heap.size w w' ∧ MBox w' p x ∧ FBox w' q g.s g.k g.l ∧ TBox w' bp (.slice Ao no co) (.slice (some bd) nn cn) (.slice (some ad) nm cm)) (by kernel_rfl) (by kernel_rfl) ⟨HB.drew, M, F, O⟩ ?_
          clear HB M F O
          repeat (first
            | (refine' RW.val (by rfl) ?_ ?_; rotate_left; (focus (intro w' hS; obtain ⟨HB, M, F, O⟩ := hS; obtain ⟨M0, M1, M2, M3⟩ := id M; obtain ⟨F0, F1, F2⟩ := id F; obtain ⟨O0, O1, O2⟩ := id O; go_simp; rfl)); simp only [Act.put, List.setIfInBounds_toArray, List.set_cons_zero, List.set_cons_succ])
            | (refine RW.off (by rfl) ?_; simp only [Act.put, List.setIfInBounds_toArray, List.set_cons_zero, List.set_cons_succ]))
          refine RW.done (fun w' hS => ?_)
          obtain ⟨HB, M, F, O⟩ := hS; obtain ⟨M0, M1, M2, M3⟩ := id M; obtain ⟨F0, F1, F2⟩ := id F; obtain ⟨O0, O1, O2⟩ := id O
          go_wp2
          go_ret
          exact ⟨rfl, HB⟩
      · obtain rfl : r = false := by rw [hok]; simp [h0]
        have h01 : decide ((0 : Int) ≤ x.f) = false := by simpa using h0
        clear hok h0
        refine RW.start (fun w' => Below w.heap.size w w' ∧ MBox w' p x ∧ FBox w' q g.s g.k g.l ∧ TBox w' bp (.slice Ao no co) (.slice (some bd) nn cn) (.slice (some ad) nm cm)) (by kernel_rfl) (by kernel_rfl) ⟨HB.drew, M, F, O⟩ ?_
        clear HB M F O
        repeat (first
          | (refine' RW.val (by rfl) ?_ ?_; rotate_left; (focus (intro w' hS; obtain ⟨HB, M, F, O⟩ := hS; obtain ⟨M0, M1, M2, M3⟩ := id M; obtain ⟨F0, F1, F2⟩ := id F; obtain ⟨O0, O1, O2⟩ := id O; go_simp; rfl)); simp only [Act.put, List.setIfInBounds_toArray, List.set_cons_zero, List.set_cons_succ])
          | (refine RW.off (by rfl) ?_; simp only [Act.put, List.setIfInBounds_toArray, List.set_cons_zero, List.set_cons_succ]))
        refine RW.done (fun w' hS => ?_)
        obtain ⟨HB, M, F, O⟩ := hS; obtain ⟨M0, M1, M2, M3⟩ := id M; obtain ⟨F0, F1, F2⟩ := id F; obtain ⟨O0, O1, O2⟩ := id O
        go_wp2
        go_ret
        exact ⟨rfl, HB⟩
end Go.Proofs.YtehcpjodkadfnaaGreat
