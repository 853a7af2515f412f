/- The law ChangeAll: WHATEVER THE INPUT it tells true, it never panics, and the input reads as it did. Merged out of: Qn Za. -/
import Derived.Test.YtehcpjodkadfnaaVu
import Derived.Test.YtehcpjodkadfnaaVv
import Derived.Test.YtehcpjodkadfnaaVn
import Derived.Test.YtehcpjodkadfnaaRows
import Derived.Test.YtehcpjodkadfnaaVm
/- ChangeAll, walked: it tells true. -/
set_option linter.unusedSimpArgs false
set_option linter.unusedVariables false
set_option maxRecDepth 100000
namespace Go.Proofs.Ytehcpjodkadfnaa
open Go.RowKit Go.Lib

theorem sameT_self (t : Tb) : sameT t t = true := by simp [sameT]
theorem goT_ok {t : Tb} (ht : TOk t) : ∀ cs : List Ch, (∀ c ∈ cs, c.g.s.size ≤ 281474976710656 ∧ 0 ≤ c.d.b ∧ c.d.b < 18446744073709551616) → ((goT t cs).2 = 0 ∧ TOk (goT t cs).1) ∨ ((goT t cs).2 ≠ 0 ∧ (goT t cs).1 = Tb.z) := by
  intro cs
  induction cs generalizing t with
  | nil => intro _; exact .inl ⟨rfl, ht⟩
  | cons c r ih =>
    intro hc
    obtain ⟨h1, h2, h3⟩ := hc c List.mem_cons_self
    by_cases e : makeE t.n c = 0
    · by_cases e2 : composeE t (makeT t.n c) = 0
      · rw [goT_next e e2]
        exact ih (ht.comp (TOk.make e ht.n h1 h2 h3) e2) (fun x hx => hc x (List.mem_cons_of_mem _ hx))
      · rw [goT_comp e e2]
        exact .inr ⟨by decide, rfl⟩
    · rw [goT_make e]
      exact .inr ⟨e, rfl⟩
theorem allT_ok {l : List Fd} (hn : NmS l) (cs : List Ch) (hc : ∀ c ∈ cs, c.g.s.size ≤ 281474976710656 ∧ 0 ≤ c.d.b ∧ c.d.b < 18446744073709551616) : ((allT l cs).2 = 0 ∧ TOk (allT l cs).1) ∨ ((allT l cs).2 ≠ 0 ∧ (allT l cs).1 = Tb.z) := by
  unfold allT
  split
  · rename_i h; exact goT_ok (TOk.keep h hn) cs hc
  · exact .inr ⟨by decide, rfl⟩
/-- what the walk keeps: two tables in boxes, and what they point to -/
structure AllS (w W : World) (bt bu : Nat) (t : Tb) (no nn nm : Nat) (X0 X1 X2 U0 U1 U2 : Option Addr) (y0 y1 y2 v0 v1 v2 : Nat) : Prop where
  B : Below w.heap.size w W
  T : TBox W bt (.slice X0 no y0) (.slice X1 nn y1) (.slice X2 nm y2)
  U : TBox W bu (.slice U0 no v0) (.slice U1 nn v1) (.slice U2 nm v2)
  r0 : Rd W X0 (cellsF t.o)
  r1 : Rd W X1 (cellsF t.n)
  r2 : Rd W X2 (cellsM t.m)
  s0 : Rd W U0 (cellsF t.o)
  s1 : Rd W U1 (cellsF t.n)
  s2 : Rd W U2 (cellsM t.m)
theorem AllS.below {w W W' : World} {bt bu : Nat} {t : Tb} {no nn nm : Nat} {X0 X1 X2 U0 U1 U2 : Option Addr} {y0 y1 y2 v0 v1 v2 : Nat} (h : AllS w W bt bu t no nn nm X0 X1 X2 U0 U1 U2 y0 y1 y2 v0 v1 v2) (hb : Below W.heap.size W W') : AllS w W' bt bu t no nn nm X0 X1 X2 U0 U1 U2 y0 y1 y2 v0 v1 v2 :=
  ⟨h.B.trans (hb.mono h.B.size), h.T.below hb, h.U.below hb, h.r0.below hb, h.r1.below hb, h.r2.below hb, h.s0.below hb, h.s1.below hb, h.s2.below hb⟩
theorem AllS.drew {w W : World} {bt bu : Nat} {t : Tb} {no nn nm : Nat} {X0 X1 X2 U0 U1 U2 : Option Addr} {y0 y1 y2 v0 v1 v2 : Nat} (h : AllS w W bt bu t no nn nm X0 X1 X2 U0 U1 U2 y0 y1 y2 v0 v1 v2) : AllS w W.drew bt bu t no nn nm X0 X1 X2 U0 U1 U2 y0 y1 y2 v0 v1 v2 :=
  ⟨h.B.drew, h.T, h.U, h.r0, h.r1, h.r2, h.s0, h.s1, h.s2⟩
set_option maxHeartbeats 4000000 in
theorem ChangeAll_m (A : Option Addr) (cA : Nat) (l : List Fd) (m : Nat) (hm : l.length = m) (hmc : m ≤ cA) (hl : m ≤ 9223372036854775807) (hs : NmS l) (K : Option Addr) (cK nc : Nat) (cs : List (Ch × Value)) (hnc : cs.length = nc) (hk : nc ≤ 9223372036854775807) (w : World) (hA : Rd w A (cellsF l)) (hK : Rd w K (cellsC cs)) (hg : ∀ x ∈ cs, ChG w x) (hcs : ∀ x ∈ cs, ChS x)
    (q : Int) (hq : (allT l (cs.map (·.1))).2 = q) (t : Tb) (ht : (allT l (cs.map (·.1))).1 = t) :
    Calls Try.prog 6 #[.slice A m cA, .slice K nc cK] w fun e w' => e = .returned (.bool true) ∧ Below w.heap.size w w' := by
  have hao := allT_ok hs (cs.map (·.1)) (fun c hc => by
    obtain ⟨p, hp, rfl⟩ := List.mem_map.1 hc
    exact ⟨(hcs p hp).2.1, (hg p hp).2.1⟩)
  rw [hq, ht] at hao
  have ho : ∀ p ∈ cs, ChO w p := fun p hp => (hg p hp).2.2
  obtain ⟨no, hno⟩ : ∃ x, t.o.length = x := ⟨_, rfl⟩
  obtain ⟨nn, hnn⟩ : ∃ x, t.n.length = x := ⟨_, rfl⟩
  obtain ⟨nm, hnm⟩ : ∃ x, t.m.length = x := ⟨_, rfl⟩
  have hsm : no ≤ 16 ∧ nn ≤ 16 ∧ nm ≤ 16 := by
    rcases hao with ⟨_, h⟩ | ⟨_, h⟩
    · have := rightT_16 h.r; rw [hno, hnn, hnm] at this; exact this
    · subst h; rw [← hno, ← hnn, ← hnm]; decide
  have hmw : MvW t.m := by
    rcases hao with ⟨_, h⟩ | ⟨_, h⟩
    · exact h.w
    · subst h; intro x hx; cases hx
  have HM := Lib.hid hm; have HNC := Lib.hid hnc; have HE := Lib.hid hq; have HT := Lib.hid ht; have HAO := Lib.hid hao
  have HNO := Lib.hid hno; have HNN := Lib.hid hnn; have HNM := Lib.hid hnm; have HMW := Lib.hid hmw; have HO := Lib.hid ho; have HG := Lib.hid hg; have HCS := Lib.hid hcs
  obtain ⟨sm0, sm1, sm2⟩ := hsm
  have HB := Below.refl w.heap.size w
  clear hm hnc hq ht hao hno hnn hnm hmw ho hg hcs
  go_enter Try.func6, Try.ntmps6
  go_wp2_with (first
    | (go_at_call 8; refine (few_m A cA l m HM.out K cK cs nc HNC.out _ hA hK HO.out hs HCS.out hl hk).mono ?_; rintro e W1 ⟨rf, rfl, hrf, hb⟩; have HRF := Lib.hid hrf; replace HB := HB.trans (hb.mono HB.size); clear hrf hb)
    | (go_at_call 9; refine (alive_calls8 _).mono ?_; rintro e wM ⟨rfl, hb⟩; replace HB := HB.trans (hb.mono HB.size); clear hb)
    | (go_at_call 22; refine (own_m K cK nc cs HNC.out (by have h3 := HRF.out (by simpa using ‹(!rf) = false›); have h5 := HNC.out; omega) _ (hK.below HB) (fun p hp => (HO.out p hp).below HB)).mono ?_))
  all_goals first
    | (go_ret; exact ⟨rfl, HB⟩)
    | skip
  have hfw := HRF.out (by simpa using ‹(!rf) = false›)
  have HW : Hid (∀ p ∈ cs, ChW p) := Lib.hid (fun p hp => ⟨(HG.out p hp).1, (HG.out p hp).2.1, by have := hfw.2.2 p hp; omega, (HCS.out p hp).2.1⟩)
  clear hfw HRF
  rintro e W2 ⟨B, d, rfl, rK, hb⟩
  replace HB := HB.trans (hb.mono HB.size)
  clear hb
  go_wp2_with (go_at_call 21; refine (All_m l m HM.out hl A cA hmc B d nc cs HNC.out hk hs HW.out _ (hA.below HB) rK (fun p hp => (HO.out p hp).below HB)).mono ?_)
  rw [HT.out, HE.out]
  rintro e W3 ⟨X0, z0, X1, z1, X2, z2, rfl, _, _, r0, r1, r2, hb⟩
  rw [HNO.out, HNN.out, HNM.out]
  replace HB := HB.trans (hb.mono HB.size)
  have hB1 := below_new (w := W3) (.cells #[.slice X0 no z0, .slice X1 nn z1, .slice X2 nm z2] 36)
  have T := TBox.new W3 (.slice X0 no z0) (.slice X1 nn z1) (.slice X2 nm z2) 36
  replace HB := HB.trans (hB1.mono HB.size)
  replace r0 := r0.below hB1
  replace r1 := r1.below hB1
  replace r2 := r2.below hB1
  clear hb hB1 rK
  go_wp2_with (go_at_call 23; refine (rAll_m l m HM.out hl A cA K cK nc cs HNC.out hk hs HW.out _ (hA.below HB) (hK.below HB) (fun p hp => (HO.out p hp).below HB)).mono ?_)
  rw [HT.out, HE.out]
  rintro e W4 ⟨U0, v0, U1, v1, U2, v2, rfl, s0, s1, s2, hb⟩
  rw [HNO.out, HNN.out, HNM.out]
  have hB1 := below_new (w := W4) (.cells #[.slice U0 no v0, .slice U1 nn v1, .slice U2 nm v2] 43)
  have hB2 := below_seq hb hB1
  have U := TBox.new W4 (.slice U0 no v0) (.slice U1 nn v1) (.slice U2 nm v2) 43
  have S : AllS w (W4.alloc (.cells #[.slice U0 no v0, .slice U1 nn v1, .slice U2 nm v2] 43)) W3.heap.size W4.heap.size t no nn nm X0 X1 X2 U0 U1 U2 z0 z1 z2 v0 v1 v2 :=
    ⟨HB.trans (hB2.mono HB.size), T.below hB2, U, r0.below hB2, r1.below hB2, r2.below hB2, s0.below hB1, s1.below hB1, s2.below hB1⟩
  clear HB T U r0 r1 r2 s0 s1 s2 hb hB1 hB2 HM HNC HT HO HW HG HCS hA hK
  go_upto_region 5 with fail
  generalize W4.alloc (.cells #[.slice U0 no v0, .slice U1 nn v1, .slice U2 nm v2] 43) = W5 at *
  obtain ⟨t0, t1, t2⟩ := S.T
  obtain ⟨u0, u1, u2⟩ := S.U
  have Sd := S.drew
  have hor := HAO.out
  rcases hor with ⟨rfl, htk⟩ | ⟨h0, htz⟩
  · have hRT := Lib.hid htk.r
    clear S htk
    go_region_held3 (fun W => W.cell? ⟨W3.heap.size, 0, none⟩ = some (.slice X0 no z0) ∧ W.cell? ⟨W3.heap.size, 1, none⟩ = some (.slice X1 nn z1) ∧ W.cell? ⟨W3.heap.size, 2, none⟩ = some (.slice X2 nm z2) ∧ W.cell? ⟨W4.heap.size, 0, none⟩ = some (.slice U0 no v0) ∧ W.cell? ⟨W4.heap.size, 1, none⟩ = some (.slice U1 nn v1) ∧ W.cell? ⟨W4.heap.size, 2, none⟩ = some (.slice U2 nm v2) ∧ AllS w W W3.heap.size W4.heap.size t no nn nm X0 X1 X2 U0 U1 U2 z0 z1 z2 v0 v1 v2) (first | assumption | exact ⟨t0, t1, t2, u0, u1, u2, Sd⟩ | exact ⟨t0, t1, t2, u0, u1, u2, S⟩ | go_keep)
      (first
        | (go_at_call 9; refine (alive_calls8 _).mono ?_; rintro e wM ⟨rfl, hb⟩; rename AllS w _ W3.heap.size W4.heap.size t no nn nm X0 X1 X2 U0 U1 U2 z0 z1 z2 v0 v1 v2 => S; replace S := S.below (by with_reducible exact hb); obtain ⟨t0, t1, t2⟩ := S.T; obtain ⟨u0, u1, u2⟩ := S.U)
        | (go_at_call 14; rename AllS w _ W3.heap.size W4.heap.size t no nn nm X0 X1 X2 U0 U1 U2 z0 z1 z2 v0 v1 v2 => S; refine (plain_m t X0 X1 X2 z0 z1 z2 no nn nm HNM.out (by omega) _ S.r2).mono ?_; rintro e wP ⟨v, rfl, hown, hb⟩; obtain ⟨P, pc, rfl, _, _, rP⟩ := own_rd hown; clear hown; replace S := S.below (by with_reducible exact hb); obtain ⟨t0, t1, t2⟩ := S.T; obtain ⟨u0, u1, u2⟩ := S.U)
        | (go_at_call 13; rename AllS w _ W3.heap.size W4.heap.size t no nn nm X0 X1 X2 U0 U1 U2 z0 z1 z2 v0 v1 v2 => S; rename Rd _ P (cellsM t.m) => rP; refine (Equal_m t t X0 X1 P U0 U1 U2 z0 z1 pc v0 v1 v2 no nn nm no nn nm HNO.out HNN.out HNM.out HNO.out HNN.out HNM.out (by omega) (by omega) (by omega) (by omega) (by omega) (by omega) _ S.r0 S.r1 rP S.s0 S.s1 S.s2).mono ?_; rintro e wE ⟨rfl, hb⟩; rw [sameT_self]; replace S := S.below (by with_reducible exact hb); obtain ⟨t0, t1, t2⟩ := S.T; obtain ⟨u0, u1, u2⟩ := S.U)
        | (go_at_call 16; rename AllS w _ W3.heap.size W4.heap.size t no nn nm X0 X1 X2 U0 U1 U2 z0 z1 z2 v0 v1 v2 => S; refine (TRight_m t X0 X1 X2 z0 z1 z2 no nn nm HNO.out HNN.out HNM.out (by omega) (by omega) (by omega) HMW.out _ S.r0 S.r1 S.r2).mono ?_; rintro e wE ⟨rfl, hb⟩; rw [hRT.out]; replace S := S.below (by with_reducible exact hb); obtain ⟨t0, t1, t2⟩ := S.T; obtain ⟨u0, u1, u2⟩ := S.U))
    rename AllS w _ W3.heap.size W4.heap.size t no nn nm X0 X1 X2 U0 U1 U2 z0 z1 z2 v0 v1 v2 => S
    go_wp2_with fail
    go_ret
    exact ⟨rfl, S.B⟩
  · have e1 : (q != 0) = true := by simpa using h0
    clear S h0 htz
    refine wp_region_noPanic ?_
    refine wp_region_held_drew (S := (fun W => W.cell? ⟨W3.heap.size, 0, none⟩ = some (.slice X0 no z0) ∧ W.cell? ⟨W3.heap.size, 1, none⟩ = some (.slice X1 nn z1) ∧ W.cell? ⟨W3.heap.size, 2, none⟩ = some (.slice X2 nm z2) ∧ W.cell? ⟨W4.heap.size, 0, none⟩ = some (.slice U0 no v0) ∧ W.cell? ⟨W4.heap.size, 1, none⟩ = some (.slice U1 nn v1) ∧ W.cell? ⟨W4.heap.size, 2, none⟩ = some (.slice U2 nm v2) ∧ AllS w W W3.heap.size W4.heap.size t no nn nm X0 X1 X2 U0 U1 U2 z0 z1 z2 v0 v1 v2)) (by kernel_rfl) ?_ (fun hHeld => ?_)
    · exact ⟨t0, t1, t2, u0, u1, u2, Sd⟩
    refine wpAnyH_ready (rs := [0]) (by kernel_rfl) (by simp) ?_
    refine AllReadyH.cons (o := _) rfl (fun K hK => ?_) AllReadyH.nil
    go_simp
    (go_at_call 9; refine (alive_calls8 _).mono ?_; rintro e wM ⟨rfl, hb⟩; rename AllS w _ W3.heap.size W4.heap.size t no nn nm X0 X1 X2 U0 U1 U2 z0 z1 z2 v0 v1 v2 => S; replace S := S.below (by with_reducible exact hb); obtain ⟨t0, t1, t2⟩ := S.T; obtain ⟨u0, u1, u2⟩ := S.U)
    try (go_wp2_with fail)
    refine hK.out _ _ ?_ (fun hHeld => ?_)
    · (try dsimp only); first | assumption | exact ⟨t0, t1, t2, u0, u1, u2, S⟩ | go_keep
    clear hK K
    try simp only [Act.put, List.setIfInBounds_toArray, List.set_cons_zero, List.set_cons_succ, List.getElem_toArray, List.getElem_cons_succ, List.getElem_cons_zero]
    refine wpAnyH_take (i := 1) (oi := _) (v := ?_) rfl (by kernel_rfl) (by kernel_rfl) (by kernel_rfl) (fun _ _ _ h => h) (Or.inl ⟨by rfl, ?_⟩) hHeld ?_
    rotate_left
    · (intro w hSw; (try dsimp only at hSw); go_simp; first | done | with_reducible rfl)
    try simp only [Act.put, List.setIfInBounds_toArray, List.set_cons_zero, List.set_cons_succ, List.getElem_toArray, List.getElem_cons_succ, List.getElem_cons_zero]
    refine wpAnyH_take (i := 2) (oi := _) (v := ?_) rfl (by kernel_rfl) (by kernel_rfl) (by kernel_rfl) (fun _ _ _ h => h) (Or.inl ⟨by rfl, ?_⟩) hHeld ?_
    rotate_left
    · (intro w hSw; (try dsimp only at hSw); go_simp; first | done | with_reducible rfl)
    try simp only [Act.put, List.setIfInBounds_toArray, List.set_cons_zero, List.set_cons_succ, List.getElem_toArray, List.getElem_cons_succ, List.getElem_cons_zero]
    refine wpAnyH_take (i := 4) (oi := _) (v := ?_) rfl (by kernel_rfl) (by kernel_rfl) (by kernel_rfl) (fun _ _ _ h => h) (Or.inl ⟨by rfl, ?_⟩) hHeld ?_
    rotate_left
    · (intro w hSw; (try dsimp only at hSw); go_simp; first | done | with_reducible rfl)
    try simp only [Act.put, List.setIfInBounds_toArray, List.set_cons_zero, List.set_cons_succ, List.getElem_toArray, List.getElem_cons_succ, List.getElem_cons_zero]
    refine wpAnyH_ready (rs := [3]) (by kernel_rfl) (by simp) ?_
    refine AllReadyH.cons (o := _) rfl (fun K hK => ?_) AllReadyH.nil
    go_simp
    (go_at_call 14; rename AllS w _ W3.heap.size W4.heap.size t no nn nm X0 X1 X2 U0 U1 U2 z0 z1 z2 v0 v1 v2 => S; refine (plain_m t X0 X1 X2 z0 z1 z2 no nn nm HNM.out (by omega) _ S.r2).mono ?_; rintro e wP ⟨v, rfl, hown, hb⟩; obtain ⟨P, pc, rfl, _, _, rP⟩ := own_rd hown; clear hown; replace S := S.below (by with_reducible exact hb); obtain ⟨t0, t1, t2⟩ := S.T; obtain ⟨u0, u1, u2⟩ := S.U)
    try (go_wp2_with fail)
    refine hK.out _ _ ?_ (fun hHeld => ?_)
    · (try dsimp only); first | assumption | exact ⟨t0, t1, t2, u0, u1, u2, S⟩ | go_keep
    clear hK K
    try simp only [Act.put, List.setIfInBounds_toArray, List.set_cons_zero, List.set_cons_succ, List.getElem_toArray, List.getElem_cons_succ, List.getElem_cons_zero]
    refine wpAnyH_ready (rs := [5]) (by kernel_rfl) (by simp) ?_
    refine AllReadyH.cons (o := _) rfl (fun K hK => ?_) AllReadyH.nil
    go_simp
    (go_at_call 13; rename AllS w _ W3.heap.size W4.heap.size t no nn nm X0 X1 X2 U0 U1 U2 z0 z1 z2 v0 v1 v2 => S; rename Rd _ P (cellsM t.m) => rP; refine (Equal_m t t X0 X1 P U0 U1 U2 z0 z1 pc v0 v1 v2 no nn nm no nn nm HNO.out HNN.out HNM.out HNO.out HNN.out HNM.out (by omega) (by omega) (by omega) (by omega) (by omega) (by omega) _ S.r0 S.r1 rP S.s0 S.s1 S.s2).mono ?_; rintro e wE ⟨rfl, hb⟩; rw [sameT_self]; replace S := S.below (by with_reducible exact hb); obtain ⟨t0, t1, t2⟩ := S.T; obtain ⟨u0, u1, u2⟩ := S.U)
    try (go_wp2_with fail)
    refine hK.out _ _ ?_ (fun hHeld => ?_)
    · (try dsimp only); first | assumption | exact ⟨t0, t1, t2, u0, u1, u2, S⟩ | go_keep
    clear hK K
    try simp only [Act.put, List.setIfInBounds_toArray, List.set_cons_zero, List.set_cons_succ, List.getElem_toArray, List.getElem_cons_succ, List.getElem_cons_zero]
    refine wpAnyH_take (i := 6) (oi := _) (v := ?_) rfl (by kernel_rfl) (by kernel_rfl) (by kernel_rfl) (fun _ _ _ h => h) (Or.inl ⟨by rfl, ?_⟩) hHeld ?_
    rotate_left
    · (intro w hSw; (try dsimp only at hSw); go_simp; first | done | with_reducible rfl)
    try simp only [Act.put, List.setIfInBounds_toArray, List.set_cons_zero, List.set_cons_succ, List.getElem_toArray, List.getElem_cons_succ, List.getElem_cons_zero]
    refine wpAnyH_take (i := 7) (oi := _) (v := ?_) rfl (by kernel_rfl) (by kernel_rfl) (by kernel_rfl) (fun _ _ _ h => h) (Or.inl ⟨by rfl, ?_⟩) hHeld ?_
    rotate_left
    · (intro w hSw; (try dsimp only at hSw); go_simp; first | done | with_reducible rfl)
    try simp only [Act.put, List.setIfInBounds_toArray, List.set_cons_zero, List.set_cons_succ, List.getElem_toArray, List.getElem_cons_succ, List.getElem_cons_zero]
    refine wpAnyH_take (i := 8) (oi := _) (v := ?_) rfl (by kernel_rfl) (by kernel_rfl) (by kernel_rfl) (fun _ _ _ h => h) (Or.inl ⟨by rfl, ?_⟩) hHeld ?_
    rotate_left
    · (intro w hSw; (try dsimp only at hSw); go_simp; first | done | with_reducible rfl)
    try simp only [Act.put, List.setIfInBounds_toArray, List.set_cons_zero, List.set_cons_succ, List.getElem_toArray, List.getElem_cons_succ, List.getElem_cons_zero]
    refine wpAnyH_take (i := 9) (oi := _) (v := ?_) rfl (by kernel_rfl) (by kernel_rfl) (by kernel_rfl) (fun _ _ _ h => h) (Or.inl ⟨by rfl, ?_⟩) hHeld ?_
    rotate_left
    · (intro w hSw; (try dsimp only at hSw); go_simp; first | done | with_reducible rfl)
    try simp only [Act.put, List.setIfInBounds_toArray, List.set_cons_zero, List.set_cons_succ, List.getElem_toArray, List.getElem_cons_succ, List.getElem_cons_zero]
    refine wpAnyH_take (i := 10) (oi := _) (v := ?_) rfl (by kernel_rfl) (by kernel_rfl) (by kernel_rfl) (fun _ _ _ h => h) (Or.inl ⟨by rfl, ?_⟩) hHeld ?_
    rotate_left
    · (intro w hSw; (try dsimp only at hSw); go_simp; first | done | with_reducible rfl)
    try simp only [Act.put, List.setIfInBounds_toArray, List.set_cons_zero, List.set_cons_succ, List.getElem_toArray, List.getElem_cons_succ, List.getElem_cons_zero]
    refine wpAnyH_take (i := 11) (oi := _) (v := ?_) rfl (by kernel_rfl) (by kernel_rfl) (by kernel_rfl) (fun _ _ _ h => h) (Or.inl ⟨by rfl, ?_⟩) hHeld ?_
    rotate_left
    · (intro w hSw; (try dsimp only at hSw); go_simp; first | done | with_reducible rfl)
    try simp only [Act.put, List.setIfInBounds_toArray, List.set_cons_zero, List.set_cons_succ, List.getElem_toArray, List.getElem_cons_succ, List.getElem_cons_zero]
    refine wpAnyH_take (i := 12) (oi := _) (v := ?_) rfl (by kernel_rfl) (by kernel_rfl) (by kernel_rfl) (fun _ _ _ h => h) (Or.inl ⟨by rfl, ?_⟩) hHeld ?_
    rotate_left
    · (intro w hSw; (try dsimp only at hSw); go_simp; first | done | with_reducible rfl)
    try simp only [Act.put, List.setIfInBounds_toArray, List.set_cons_zero, List.set_cons_succ, List.getElem_toArray, List.getElem_cons_succ, List.getElem_cons_zero]
    refine wpAnyH_take (i := 13) (oi := _) (v := ?_) rfl (by kernel_rfl) (by kernel_rfl) (by kernel_rfl) (fun _ _ _ h => h) (Or.inl ⟨by rfl, ?_⟩) hHeld ?_
    rotate_left
    · (intro w hSw; (try dsimp only at hSw); go_simp; first | done | with_reducible rfl)
    try simp only [Act.put, List.setIfInBounds_toArray, List.set_cons_zero, List.set_cons_succ, List.getElem_toArray, List.getElem_cons_succ, List.getElem_cons_zero]
    refine wpAnyH_take (i := 14) (oi := _) (v := ?_) rfl (by kernel_rfl) (by kernel_rfl) (by kernel_rfl) (fun _ _ _ h => h) (Or.inl ⟨by rfl, ?_⟩) hHeld ?_
    rotate_left
    · (intro w hSw; (try dsimp only at hSw); go_simp; first | done | with_reducible rfl)
    try simp only [Act.put, List.setIfInBounds_toArray, List.set_cons_zero, List.set_cons_succ, List.getElem_toArray, List.getElem_cons_succ, List.getElem_cons_zero]
    refine wpAnyH_take (i := 15) (oi := _) (v := ?_) rfl (by kernel_rfl) (by kernel_rfl) (by kernel_rfl) (fun _ _ _ h => h) (Or.inl ⟨by rfl, ?_⟩) hHeld ?_
    rotate_left
    · (intro w hSw; (try dsimp only at hSw); go_simp; first | done | with_reducible rfl)
    try simp only [Act.put, List.setIfInBounds_toArray, List.set_cons_zero, List.set_cons_succ, List.getElem_toArray, List.getElem_cons_succ, List.getElem_cons_zero]
    refine wpAnyH_ready (rs := [16]) (by kernel_rfl) (by simp) ?_
    refine AllReadyH.cons (o := _) rfl (fun K hK => ?_) AllReadyH.nil
    go_simp
    refine hK.out _ _ ?_ (fun hHeld => ?_)
    · (try dsimp only); first | assumption | exact ⟨t0, t1, t2, u0, u1, u2, S⟩ | go_keep
    clear hK K
    try simp only [Act.put, List.setIfInBounds_toArray, List.set_cons_zero, List.set_cons_succ, List.getElem_toArray, List.getElem_cons_succ, List.getElem_cons_zero]
    refine wpAnyH_ready (rs := [17]) (by kernel_rfl) (by simp) ?_
    refine AllReadyH.cons (o := _) rfl (fun K hK => ?_) AllReadyH.nil
    go_simp
    refine hK.out _ _ ?_ (fun hHeld => ?_)
    · (try dsimp only); first | assumption | exact ⟨t0, t1, t2, u0, u1, u2, S⟩ | go_keep
    clear hK K
    try simp only [Act.put, List.setIfInBounds_toArray, List.set_cons_zero, List.set_cons_succ, List.getElem_toArray, List.getElem_cons_succ, List.getElem_cons_zero]
    refine wpAnyH_take (i := 18) (oi := _) (v := ?_) rfl (by kernel_rfl) (by kernel_rfl) (by kernel_rfl) (fun _ _ _ h => h) (Or.inl ⟨by rfl, ?_⟩) hHeld ?_
    rotate_left
    · (intro w hSw; (try dsimp only at hSw); go_simp; first | done | with_reducible rfl)
    try simp only [Act.put, List.setIfInBounds_toArray, List.set_cons_zero, List.set_cons_succ, List.getElem_toArray, List.getElem_cons_succ, List.getElem_cons_zero]
    refine wpAnyH_take (i := 19) (oi := _) (v := ?_) rfl (by kernel_rfl) (by kernel_rfl) (by kernel_rfl) (fun _ _ _ h => h) (Or.inl ⟨by rfl, ?_⟩) hHeld ?_
    rotate_left
    · (intro w hSw; (try dsimp only at hSw); go_simp; first | done | with_reducible rfl)
    try simp only [Act.put, List.setIfInBounds_toArray, List.set_cons_zero, List.set_cons_succ, List.getElem_toArray, List.getElem_cons_succ, List.getElem_cons_zero]
    refine wpAnyH_take (i := 20) (oi := _) (v := ?_) rfl (by kernel_rfl) (by kernel_rfl) (by kernel_rfl) (fun _ _ _ h => h) (Or.inl ⟨by rfl, ?_⟩) hHeld ?_
    rotate_left
    · (intro w hSw; (try dsimp only at hSw); go_simp; first | done | with_reducible rfl)
    try simp only [Act.put, List.setIfInBounds_toArray, List.set_cons_zero, List.set_cons_succ, List.getElem_toArray, List.getElem_cons_succ, List.getElem_cons_zero]
    refine wpAnyH_done (by kernel_rfl) ?_ _
    refine NoPanic.normal ?_
    rename AllS w _ W3.heap.size W4.heap.size t no nn nm X0 X1 X2 U0 U1 U2 z0 z1 z2 v0 v1 v2 => S
    go_wp2_with fail
    go_ret
    exact ⟨rfl, S.B⟩
theorem ChangeAll_row (A : Option Addr) (cA : Nat) (l : List Fd) (K : Option Addr) (cK : Nat) (cs : List (Ch × Value)) (w : World) (hA : Rd w A (cellsF l)) (hmc : l.length ≤ cA) (hz : (∀ f ∈ l, f.s.size ≤ 281474976710656) ∧ l.length ≤ 281474976710656)
    (hK : Rd w K (cellsC cs)) (hkc : cs.length ≤ cK) (hg : ∀ x ∈ cs, ChG w x) (hs : (∀ x ∈ cs, ChS x) ∧ cs.length ≤ 281474976710656) :
    Calls Try.prog 6 #[.slice A l.length cA, .slice K cs.length cK] w fun e w' => e = .returned (.bool true) ∧ Below w.heap.size w w' :=
  ChangeAll_m A cA l l.length rfl hmc (by omega) hz.1 K cK cs.length cs rfl (by omega) w hA hK hg hs.1 _ rfl _ rfl
end Go.Proofs.Ytehcpjodkadfnaa
/- The law ChangeAll: WHATEVER THE INPUT it tells true, it never panics, and the input reads as it did: the row, out of ChangeAll_calls. -/
set_option linter.unusedVariables false
set_option linter.unusedSimpArgs false
set_option maxRecDepth 100000
namespace Go.Proofs.Ytehcpjodkadfnaa.changeAll
open Go.ChangeShapes Go.WideShapes Go.ChangeAt Go.RowKit Go.Joins
open Go.ChangeMaps (open_string shut_string)
theorem own : ownKnob Try.prog.godebug = none := by kernel_rfl
theorem laidOut : laidOutB Try.prog = true := by kernel_rfl
set_option maxRecDepth 100000 in
theorem lifted (os : Os) (started : os.Started) (H : Type) (enc : TypeId × Value → H) :
    ReturnsInHanded {} Try.checked os 6 .any (Rows.changeAllSpec.pre6 enc Try.prog Try.f6 Rows.changeAllRow.domain false) (Rows.changeAllSpec.post enc Try.prog Try.f6 false true false false) := by
  refine returnsInHanded_of_change_sized (C := Try.checked) own started (by kernel_rfl) Try.func6
    (ChangeSpec.witness6 (enc := enc) (C := Try.checked) false ⟨#[], #[.slice none 0 0, .slice none 0 0], []⟩ 8 (by kernel_rfl) (by kernel_rfl) (by kernel_rfl) (by kernel_rfl)) ?_
  intro W base args ds gs before hval0 hW hcnd hsz0 _
  have hval : ∀ (j : Nat) t v, Try.f6.params[j]? = some t → args[j]? = some v → Value.okWide Try.prog W .any base t v := hval0
  have hW' := hW
  obtain ⟨p, q, hA0, hV, rfl, hfz, hnd⟩ := hW
  have hA : DataW.TrodAll enc Try.prog W 0 (fun _ => true) true Try.f6.params.toList args.toList ds p := hA0
  rw [Try.params6] at hA hval
  obtain ⟨v0, vs0, d0, ds0, p0, q0, hargs, rfl, rfl, h0, r0⟩ := trodAll_cons hA
  obtain ⟨v1, vs1, d1, ds1, p1, q1, rfl, rfl, rfl, h1, r1⟩ := trodAll_cons r0
  obtain ⟨rfl, rfl, rfl⟩ := trodAll_nil r1
  obtain rfl : args = #[v0, v1] := by cases args; simp_all
  obtain ⟨rfl, rfl⟩ := trodVars_none hV
  have k0 := h0
  have lt0 : ∀ x ∈ p0, x.block < W.heap.size := by obtain ⟨m, hm⟩ := k0; exact DataW.trod_lt m _ _ _ hm
  obtain ⟨a0, c0, l0, rfl, e0, f0, g0, s0, z0⟩ := open_fldsz (hval 0 22 v0 rfl rfl) h0
  replace z0 := z0 (SzT.of hsz0 (j := 0) rfl rfl)
  have k1 := h1
  have lt1 : ∀ x ∈ p1, x.block < W.heap.size := by obtain ⟨m, hm⟩ := k1; exact DataW.trod_lt m _ _ _ hm
  obtain ⟨a1, c1, l1, rfl, e1, f1, g1, s1, z1⟩ := open_chgs (hval 1 32 v1 rfl rfl) h1
  replace z1 := z1 (SzT.of hsz0 (j := 1) rfl rfl)
  clear hA0 hval0 hsz0
  refine (ChangeAll_row a0 c0 l0 a1 c1 l1 W g0 e0 z0 g1 e1 s1 z1).mono fun e W' ⟨he, bel⟩ => ?_
  subst he
  exact ⟨_, rfl, _, _, _, [], _, [], hW', trodAll_mk1 (shut_bool Try.underlying4 _), (trodAll_cons_mk (Below.trod laidOut (by kernel_rfl) (of_decide_eq_true (by kernel_rfl)) k0 bel lt0) (trodAll_cons_mk (Below.trod laidOut (by kernel_rfl) (of_decide_eq_true (by kernel_rfl)) k1 bel lt1) trodAll_mk0)), rfl, bel.frame _, fun h => by cases h⟩
theorem over : Rows.changeAllRow.holds Try.pinned (OpenSpec.ofChange Rows.changeAllSpec) :=
  OpenClaim.holds_of_wide 6 Try.f6 rfl rfl rfl rfl rfl rfl rfl ⟨rfl, rfl, rfl, rfl, rfl⟩ rfl rfl rfl rfl rfl (by kernel_rfl) Try.func6 (by kernel_rfl)
    (of_decide_eq_true (by kernel_rfl)) (by unfold Func.isWrapper; first | (rw [if_pos (by decide +kernel)]; kernel_rfl) | (rw [if_neg (by decide +kernel)]; exact ⟨rfl, rfl⟩))
    (fun os started H enc _ => lifted os started H enc)
theorem proved : Rows.ChangeAllSaid := over
end Go.Proofs.Ytehcpjodkadfnaa.changeAll
namespace Go.Proofs.Ytehcpjodkadfnaa
/-- The row, under a short name, for the claim. -/
theorem changeAll_holds : Rows.ChangeAllSaid := changeAll.proved
end Go.Proofs.Ytehcpjodkadfnaa
