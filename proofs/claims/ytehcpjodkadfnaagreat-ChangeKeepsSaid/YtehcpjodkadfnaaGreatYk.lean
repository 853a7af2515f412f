/- The law ChangeKeeps: WHATEVER THE INPUT it tells true, it never panics, and the input reads as it did. Merged out of: Sf Zk. -/
import Derived.Test.YtehcpjodkadfnaaGreatVl
import Derived.Test.YtehcpjodkadfnaaGreatVm
import Derived.Test.YtehcpjodkadfnaaGreatRows
/- ChangeKeeps, walked: it tells true. -/
set_option linter.unusedSimpArgs false
set_option linter.unusedVariables false
set_option maxRecDepth 100000
namespace Go.Proofs.YtehcpjodkadfnaaGreat
open Go.RowKit Go.Lib

theorem goT_okz {t : Tb} (ht : TOk t) : ∀ cs : List Ch, (∀ c ∈ cs, c.g.s.size ≤ 281474976710656 ∧ 0 ≤ c.d.b ∧ c.d.b < 18446744073709551616) → (goT t cs).2 = 0 → TOk (goT t cs).1 := by
  intro cs
  induction cs generalizing t with
  | nil => intro _ _; exact ht
  | cons c r ih =>
    intro hc he
    obtain ⟨h1, h2, h3⟩ := hc c List.mem_cons_self
    by_cases e : makeE t.n c = 0
    · by_cases e2 : composeE t (makeT t.n c) = 0
      · rw [goT_next e e2] at he ⊢
        exact ih (ht.comp (TOk.make e ht.n h1 h2 h3) e2) (fun x hx => hc x (List.mem_cons_of_mem _ hx)) he
      · rw [goT_comp e e2] at he
        exact absurd he (by decide)
    · rw [goT_make e] at he
      exact absurd he e
theorem allT_okz {l : List Fd} (hn : NmS l) {cs : List Ch} (hc : ∀ c ∈ cs, c.g.s.size ≤ 281474976710656 ∧ 0 ≤ c.d.b ∧ c.d.b < 18446744073709551616) (he : (allT l cs).2 = 0) : TOk (allT l cs).1 := by
  by_cases h : rightF l = true
  · rw [allT, if_pos h] at he ⊢
    exact goT_okz (TOk.keep h hn) cs hc he
  · rw [allT, if_neg h] at he
    exact absurd he (by decide)
theorem named_no_of {cs : List (Ch × Value)} {nm : ByteArray} (h : namedB cs nm = false) : ∀ c ∈ cs.map (·.1), c.s ≠ nm := by
  intro c hc
  obtain ⟨p, hp, rfl⟩ := List.mem_map.1 hc
  have := List.any_eq_false.1 h p hp
  simp [namesC] at this
  exact this.1
set_option maxHeartbeats 4000000 in
theorem Keeps_no (A : Option Addr) (cA : Nat) (l : List Fd) (m : Nat) (hm : l.length = m) (hmc : m ≤ cA) (hl : m ≤ 9223372036854775807) (hs : NmS l) (K : Option Addr) (cK nc : Nat) (cs : List (Ch × Value)) (hnc : cs.length = nc) (hk : nc ≤ 9223372036854775807) (Av : Option Addr) (cv nv : Nat) (vs : List Vl) (hnv : vs.length = nv) (hvl : nv ≤ 9223372036854775807) (w : World) (hA : Rd w A (cellsF l)) (hK : Rd w K (cellsC cs)) (hV : Rd w Av (cellsVl vs)) (hg : ∀ x ∈ cs, ChG w x) (hcs : ∀ x ∈ cs, ChS x) (hvs : ∀ v ∈ vs, 0 ≤ v.b ∧ v.b < 18446744073709551616 ∧ v.t.size ≤ maxLen) (hno : rightF l = false ∨ nv < m) :
    Calls Tryz.prog 3 #[.slice A m cA, .slice K nc cK, .slice Av nv cv] w fun e w' => e = .returned (.bool true) ∧ Below w.heap.size w w' := by
  have ho : ∀ p ∈ cs, ChO w p := fun p hp => (hg p hp).2.2
  obtain ⟨rl, hr⟩ : ∃ r, rightF l = r := ⟨_, rfl⟩
  have HM := Lib.hid hm; have HNC := Lib.hid hnc; have HO := Lib.hid ho; have HCS := Lib.hid hcs; have HS := Lib.hid hs; have HR := Lib.hid hr
  have HB := Below.refl w.heap.size w
  rw [hr] at hno
  clear hm hnc ho hcs hs hg hvs hr hV
  cases rl
  · clear hno
    go_enter Tryz.func3, Tryz.ntmps3
    go_wp2_with (first | (go_at_call 4; refine (few_m A cA l m HM.out K cK cs nc HNC.out _ hA hK HO.out HS.out HCS.out hl hk).mono ?_))
    rintro e W1 ⟨rf, rfl, _, hb⟩
    replace HB := HB.trans (hb.mono HB.size)
    clear hb
    cases rf
    all_goals go_wp2_with (first
      | (go_at_call 5; refine (rRight_m A cA m l HM.out _ HR.out _ (hA.below HB) hl HS.out.fds).mono ?_; rintro e W1b ⟨rfl, hb⟩; replace HB := HB.trans (hb.mono HB.size); clear hb)
      | (go_at_call 6; refine (alive_calls8 _).mono ?_; rintro e wM ⟨rfl, hb⟩; replace HB := HB.trans (hb.mono HB.size); clear hb))
    all_goals (go_ret; exact ⟨rfl, HB⟩)
  · have hlt : nv < m := by
      rcases hno with h | h
      · cases h
      · exact h
    clear hno
    go_enter Tryz.func3, Tryz.ntmps3
    go_wp2_with (first | (go_at_call 4; refine (few_m A cA l m HM.out K cK cs nc HNC.out _ hA hK HO.out HS.out HCS.out hl hk).mono ?_))
    rintro e W1 ⟨rf, rfl, _, hb⟩
    replace HB := HB.trans (hb.mono HB.size)
    clear hb
    cases rf
    all_goals go_wp2_with (first
      | (go_at_call 5; refine (rRight_m A cA m l HM.out _ HR.out _ (hA.below HB) hl HS.out.fds).mono ?_; rintro e W1b ⟨rfl, hb⟩; replace HB := HB.trans (hb.mono HB.size); clear hb)
      | (go_at_call 6; refine (alive_calls8 _).mono ?_; rintro e wM ⟨rfl, hb⟩; replace HB := HB.trans (hb.mono HB.size); clear hb))
    all_goals (go_ret; exact ⟨rfl, HB⟩)
set_option maxHeartbeats 4000000 in
theorem Keeps_yes (A : Option Addr) (cA : Nat) (l : List Fd) (m : Nat) (hm : l.length = m) (hmc : m ≤ cA) (hl : m ≤ 9223372036854775807) (hs : NmS l) (K : Option Addr) (cK nc : Nat) (cs : List (Ch × Value)) (hnc : cs.length = nc) (hk : nc ≤ 9223372036854775807) (Av : Option Addr) (cv nv : Nat) (vs : List Vl) (hnv : vs.length = nv) (hvl : nv ≤ 9223372036854775807) (w : World) (hA : Rd w A (cellsF l)) (hK : Rd w K (cellsC cs)) (hV : Rd w Av (cellsVl vs)) (hg : ∀ x ∈ cs, ChG w x) (hcs : ∀ x ∈ cs, ChS x) (hvs : ∀ v ∈ vs, 0 ≤ v.b ∧ v.b < 18446744073709551616 ∧ v.t.size ≤ maxLen) (hr : rightF l = true) (hle : m ≤ nv) :
    Calls Tryz.prog 3 #[.slice A m cA, .slice K nc cK, .slice Av nv cv] w fun e w' => e = .returned (.bool true) ∧ Below w.heap.size w w' := by
  have ho : ∀ p ∈ cs, ChO w p := fun p hp => (hg p hp).2.2
  have hlt : decide ((nv : Int) < (m : Int)) = false := by simpa using hle
  have hcc : ∀ c ∈ cs.map (·.1), c.g.s.size ≤ 281474976710656 ∧ 0 ≤ c.d.b ∧ c.d.b < 18446744073709551616 := fun c hc => by
    obtain ⟨p, hp, rfl⟩ := List.mem_map.1 hc
    exact ⟨(hcs p hp).2.1, (hg p hp).2.1⟩
  have HM := Lib.hid hm; have HNC := Lib.hid hnc; have HO := Lib.hid ho; have HCS := Lib.hid hcs; have HS := Lib.hid hs; have HR := Lib.hid hr; have HG := Lib.hid hg; have HVS := Lib.hid hvs; have HNV := Lib.hid hnv; have HCC := Lib.hid hcc
  have HB := Below.refl w.heap.size w
  clear hm hnc ho hcs hs hg hvs hr hnv hcc
  go_enter Tryz.func3, Tryz.ntmps3
  go_wp2_with (first | (go_at_call 4; refine (few_m A cA l m HM.out K cK cs nc HNC.out _ hA hK HO.out HS.out HCS.out hl hk).mono ?_))
  rintro e W1 ⟨rf, rfl, hrf, hb⟩
  replace HB := HB.trans (hb.mono HB.size)
  clear hb
  cases rf
  · go_wp2_with (first
      | (go_at_call 5; refine (rRight_m A cA m l HM.out _ HR.out _ (hA.below HB) hl HS.out.fds).mono ?_; rintro e W1b ⟨rfl, hb⟩; replace HB := HB.trans (hb.mono HB.size); clear hb)
      | (go_at_call 6; refine (alive_calls8 _).mono ?_; rintro e wM ⟨rfl, hb⟩; replace HB := HB.trans (hb.mono HB.size); clear hb))
    go_ret
    exact ⟨rfl, HB⟩
  have hfw := hrf rfl
  have HW : Hid (∀ p ∈ cs, ChW p) := Lib.hid (fun p hp => ⟨(HG.out p hp).1, (HG.out p hp).2.1, by have := hfw.2.2 p hp; omega, (HCS.out p hp).2.1⟩)
  have hnc30 : nc ≤ 30 := by have := hfw.2.1; have := HNC.out; omega
  clear hfw hrf
  go_wp2_with (first
    | (go_at_call 5; refine (rRight_m A cA m l HM.out _ HR.out _ (hA.below HB) hl HS.out.fds).mono ?_; rintro e W1b ⟨rfl, hb⟩; replace HB := HB.trans (hb.mono HB.size); clear hb))
  have HB0 := HB
  clear HB
  go_loopw [6, 7, 8, 36] (fun _ _ _ i wr => ∃ (k : Nat), k ≤ m ∧ i = .int .i64 k ∧ Hid (∀ (j : Nat) (f : Fd) (v : Vl), j < k → l[j]? = some f → vs[j]? = some v → rightB v.k v.b v.t f.k f.l = true) ∧ Below w.heap.size w wr) (fun _ _ _ i _ => m - (intOf i).toNat)
  case atStart => exact ⟨0, by omega, rfl, Lib.hid (fun j f v hj => by omega), HB0⟩
  case round =>
    obtain ⟨k, hk1, rfl, hall, HB⟩ := hrel
    clear HB0
    by_cases hkm : k < m
    · obtain ⟨f, hf⟩ : ∃ f, l[k]? = some f := ⟨_, List.getElem?_eq_getElem (by rw [HM.out]; exact hkm)⟩
      obtain ⟨v, hvk⟩ : ∃ v, vs[k]? = some v := ⟨_, List.getElem?_eq_getElem (by rw [HNV.out]; omega)⟩
      obtain ⟨b0, b1, _⟩ := HVS.out v (List.mem_of_getElem? hvk)
      obtain ⟨r, hrb⟩ : ∃ r, rightB v.k v.b v.t f.k f.l = r := ⟨_, rfl⟩
      have hj0 : (0 : Int) ≤ (k : Int) := by omega
      have hj1 : (k : Int) < (m : Int) := by omega
      have hj2 : (k : Int) < (nv : Int) := by omega
      obtain ⟨fd, ef, f0, f1, f2⟩ := (hA.below HB).fld hf
      obtain ⟨vd, ev, _, _, _⟩ := hV.vl hvk
      subst ef ev
      have nb := below_new (w := wr) (.cells #[.string f.s, .int .i64 f.k, .int .i64 f.l] 29)
      have FB := OBox.new wr [.string f.s, .int .i64 f.k, .int .i64 f.l] 29
      have HF := Lib.hid hf; have HVK := Lib.hid hvk; have HRB := Lib.hid hrb
      clear hf hvk hrb
      go_upto_region 6 with fail
      generalize wr.alloc (.cells #[.string f.s, .int .i64 f.k, .int .i64 f.l] 29) = W3 at *
      clear f0 f1 f2
      have HB3 := HB.trans (nb.mono HB.size)
      have hV3 := hV.below HB3
      cases r
      · refine RW.start (fun w' => Below W3.heap.size W3 w') (by kernel_rfl) (by kernel_rfl) (Below.refl _ _).drew ?_
        repeat (first
          | (refine' RW.val (by rfl) ?_ ?_; rotate_left; (focus (intro w' hS; have HB5 := hS; obtain ⟨g0, g1, g2⟩ := FBox3 (FB.below HB5); obtain ⟨_, ev, v0, v1, v2⟩ := (hV3.below HB5).vl HVK.out; cases ev; clear hS; go_simp; rfl)); simp only [Act.put, List.setIfInBounds_toArray, List.set_cons_zero, List.set_cons_succ])
          | (refine RW.off (by rfl) ?_; simp only [Act.put, List.setIfInBounds_toArray, List.set_cons_zero, List.set_cons_succ])
          | (refine' RW.call (by rfl) ?_ ?_ ?_
             rotate_left 3
             (focus (intro w' hS; have HB5 := hS; obtain ⟨g0, g1, g2⟩ := FBox3 (FB.below HB5); obtain ⟨_, ev, v0, v1, v2⟩ := (hV3.below HB5).vl HVK.out; cases ev; clear hS; go_simp; exact ⟨rfl, rfl⟩))
             (focus
               intro w' hS
               have HB5 := hS; obtain ⟨g0, g1, g2⟩ := FBox3 (FB.below HB5); obtain ⟨_, ev, v0, v1, v2⟩ := (hV3.below HB5).vl HVK.out; cases ev; clear hS
               first
                 | (refine (rRight_is5 v.k v.b v.t f.s f.k f.l b0 b1 false HRB.out _).mono ?_; rintro e w1 ⟨rfl, hb⟩; exact ⟨rfl, (below_seq HB5 hb)⟩))
             simp only [Act.put, List.setIfInBounds_toArray, List.set_cons_zero, List.set_cons_succ]))
        refine RW.done (fun w' hS => ?_)
        have HB5 := hS; obtain ⟨g0, g1, g2⟩ := FBox3 (FB.below HB5); obtain ⟨_, ev, v0, v1, v2⟩ := (hV3.below HB5).vl HVK.out; cases ev; clear hS
        replace HB := HB3.trans (HB5.mono HB3.size)
        go_wp2_with (first
          | (go_at_call 6; refine (alive_calls8 _).mono ?_; rintro e wM ⟨rfl, hb⟩; replace HB := HB.trans (hb.mono HB.size); clear hb))
        go_ret
        exact ⟨rfl, HB⟩
      · refine RW.start (fun w' => Below W3.heap.size W3 w') (by kernel_rfl) (by kernel_rfl) (Below.refl _ _).drew ?_
        repeat (first
          | (refine' RW.val (by rfl) ?_ ?_; rotate_left; (focus (intro w' hS; have HB5 := hS; obtain ⟨g0, g1, g2⟩ := FBox3 (FB.below HB5); obtain ⟨_, ev, v0, v1, v2⟩ := (hV3.below HB5).vl HVK.out; cases ev; clear hS; go_simp; rfl)); simp only [Act.put, List.setIfInBounds_toArray, List.set_cons_zero, List.set_cons_succ])
          | (refine RW.off (by rfl) ?_; simp only [Act.put, List.setIfInBounds_toArray, List.set_cons_zero, List.set_cons_succ])
          | (refine' RW.call (by rfl) ?_ ?_ ?_
             rotate_left 3
             (focus (intro w' hS; have HB5 := hS; obtain ⟨g0, g1, g2⟩ := FBox3 (FB.below HB5); obtain ⟨_, ev, v0, v1, v2⟩ := (hV3.below HB5).vl HVK.out; cases ev; clear hS; go_simp; exact ⟨rfl, rfl⟩))
             (focus
               intro w' hS
               have HB5 := hS; obtain ⟨g0, g1, g2⟩ := FBox3 (FB.below HB5); obtain ⟨_, ev, v0, v1, v2⟩ := (hV3.below HB5).vl HVK.out; cases ev; clear hS
               first
                 | (refine (rRight_is5 v.k v.b v.t f.s f.k f.l b0 b1 true HRB.out _).mono ?_; rintro e w1 ⟨rfl, hb⟩; exact ⟨rfl, (below_seq HB5 hb)⟩))
             simp only [Act.put, List.setIfInBounds_toArray, List.set_cons_zero, List.set_cons_succ]))
        refine RW.done (fun w' hS => ?_)
        have HB5 := hS; obtain ⟨g0, g1, g2⟩ := FBox3 (FB.below HB5); obtain ⟨_, ev, v0, v1, v2⟩ := (hV3.below HB5).vl HVK.out; cases ev; clear hS
        have hall2 : Hid (∀ (j : Nat) (f : Fd) (v : Vl), j < k + 1 → l[j]? = some f → vs[j]? = some v → rightB v.k v.b v.t f.k f.l = true) := Lib.hid (fun j f' v' hj h1 h2 => by
          rcases (by omega : j < k ∨ j = k) with h | rfl
          · exact hall.out j f' v' h h1 h2
          · rw [HF.out] at h1; rw [HVK.out] at h2; cases h1; cases h2; exact HRB.out)
        go_wp2
        go_roundw
        case rel => exact ⟨k + 1, by omega, by go_num, hall2, HB3.trans (HB5.mono HB3.size)⟩
        case measure => simp [intOf]; omega
    · obtain rfl : k = m := by omega
      have hfit : FitV l vs := fun j f v hf hv => by
        obtain ⟨b0, b1, _⟩ := HVS.out v (List.mem_of_getElem? hv)
        exact ⟨hall.out j f v (by have := (List.getElem?_eq_some_iff.1 hf).1; have := HM.out; omega) hf hv, b0, b1⟩
      have HFIT := Lib.hid hfit
      clear hfit hall
      go_wp2_with (first
        | (go_at_call 9; refine (own_m K cK nc cs HNC.out (by omega) _ (hK.below HB) (fun p hp => (HO.out p hp).below HB)).mono ?_))
      rintro e W2 ⟨B, d, rfl, rK, hb⟩
      replace HB := HB.trans (hb.mono HB.size)
      clear hb
      go_wp2_with (first | (go_at_call 8; refine (All_m l k HM.out hl A cA hmc B d nc cs HNC.out hk HS.out HW.out _ (hA.below HB) rK (fun p hp => (HO.out p hp).below HB)).mono ?_))
      have hok := allT_okz HS.out (cs := cs.map (·.1)) HCC.out
      have hold := allT_old (l := l) (cs := cs.map (·.1))
      have hkeep := fun (j : Nat) (f : Fd) => allT_keeps HR.out HS.out (cs := cs.map (·.1)) HCC.out (k := j) (f := f)
      obtain ⟨T, hT⟩ : ∃ x, (allT l (cs.map (·.1))).1 = x := ⟨_, rfl⟩
      obtain ⟨q, hq⟩ : ∃ x, (allT l (cs.map (·.1))).2 = x := ⟨_, rfl⟩
      rw [hT, hq] at hok hold ⊢
      obtain ⟨ko, hko⟩ : ∃ x, T.o.length = x := ⟨_, rfl⟩
      obtain ⟨kn, hkn⟩ : ∃ x, T.n.length = x := ⟨_, rfl⟩
      obtain ⟨km, hkm'⟩ : ∃ x, T.m.length = x := ⟨_, rfl⟩
      rintro e W3 ⟨X0, y0, X1, y1, X2, y2, rfl, _, _, r0, r1, r2, hb⟩
      rw [hko, hkn, hkm']
      have nb := below_new (w := W3) (.cells #[.slice X0 ko y0, .slice X1 kn y1, .slice X2 km y2] 36)
      have TB : OBox (W3.alloc (.cells #[.slice X0 ko y0, .slice X1 kn y1, .slice X2 km y2] 36)) W3.heap.size [.slice X0 ko y0, .slice X1 kn y1, .slice X2 km y2] 36 := OBox.new W3 _ _
      have hb2 := below_seq hb nb
      replace HB := HB.trans (hb2.mono HB.size)
      replace r0 := r0.below nb
      replace r1 := r1.below nb
      replace r2 := r2.below nb
      have HKO := Lib.hid hko; have HKN := Lib.hid hkn; have HKM := Lib.hid hkm'; have HOK := Lib.hid hok; have HOLD := Lib.hid hold
      have HKEEP : Hid (∀ (j : Nat) (f : Fd), q = 0 → l[j]? = some f → (∀ c ∈ cs.map (·.1), c.s ≠ f.s) → KeepsT l T f j) := Lib.hid (fun j f h0 h1 h2 => by have := hkeep j f; rw [hT, hq] at this; exact this h0 h1 h2)
      clear hko hkn hkm' hok hold hkeep hT hq rK hb hb2 nb
      go_upto_region 10 with fail
      generalize W3.alloc (.cells #[.slice X0 ko y0, .slice X1 kn y1, .slice X2 km y2] 36) = W4 at *
      by_cases h0 : q = 0
      · subst h0
        have TK := HOK.out rfl
        have hTo := HOLD.out rfl
        have hfitT : FitV T.o vs := by rw [hTo]; exact HFIT.out
        have hlenT : ko ≤ vs.length := by rw [← HKO.out, hTo, HM.out, HNV.out]; exact hle
        obtain ⟨x, hx⟩ : ∃ x, strL (objL l vs k) = x := ⟨_, rfl⟩
        have hbx : bl x = objL l vs l.length := by rw [← hx, HM.out]; simp [bl, strL]
        have hobl : (bl x).length = sizeF l := by rw [hbx]; exact objL_len HR.out (by rw [HM.out, HNV.out]; exact hle) HFIT.out (Nat.le_refl _)
        have hxs : (bl x).length = x.size := bl_length x
        have hz0 : sizeF T.o = x.size := by rw [hTo, ← hobl, hxs]
        have hgT : ∀ (j : Nat) (f : Fd), T.o[j]? = some f → getE (bl x) T.o f.s = 0 ∧ ∀ v, vs[j]? = some v → getV (bl x) T.o f.s = v := fun j f hf => by
          rw [hTo] at hf ⊢
          rw [hbx]
          exact objL_get HR.out (by rw [HM.out, HNV.out]; exact hle) HFIT.out hf
        obtain ⟨z, hz⟩ : ∃ z, sizeF T.n = z := ⟨_, rfl⟩
        have hcv := conv_bytes x
        have HTK := Lib.hid TK; have HTO := Lib.hid hTo; have HFT := Lib.hid hfitT; have HLT := Lib.hid hlenT; have HX := Lib.hid hx; have HXS := Lib.hid hxs; have HZ0 := Lib.hid hz0; have HGT := Lib.hid hgT; have HZ := Lib.hid hz
        clear TK hTo hfitT hlenT hx hbx hobl hxs hz0 hgT hz
        go_upto_region 12 with fail
        have hall12 : ∀ W, Below W4.heap.size W4 W → W.cell? ⟨W3.heap.size, 0, none⟩ = some (.slice X0 ko y0) ∧ W.cell? ⟨W3.heap.size, 1, none⟩ = some (.slice X1 kn y1) ∧ W.cell? ⟨W3.heap.size, 2, none⟩ = some (.slice X2 km y2) ∧ Below W4.heap.size W4 W := fun W hbW => by
          obtain ⟨a0, a1, a2, _, _, _⟩ := (TB.below hbW).f3
          exact ⟨a0, a1, a2, hbW⟩
        go_cut [11, 12] (fun s11 s12 wx => ∃ D dc, s11 = .slice D z dc ∧ s12 = .int .i64 0 ∧ z ≤ dc ∧ Rd wx D (bytesV (outL T vs kn)) ∧ Below W4.heap.size W4 wx)
        case first =>
          refine wp_region_noPanic ?_
          refine wp_region_held_drew (S := (fun W => W.cell? ⟨W3.heap.size, 0, none⟩ = some (.slice X0 ko y0) ∧ W.cell? ⟨W3.heap.size, 1, none⟩ = some (.slice X1 kn y1) ∧ W.cell? ⟨W3.heap.size, 2, none⟩ = some (.slice X2 km y2) ∧ Below W4.heap.size W4 W)) (by kernel_rfl) ?_ (fun hHeld => ?_)
          · (refine hall12 _ ?_; repeat (first | assumption | exact Below.refl _ _ | refine below_seq ?_ (bytesWorld_below _ _ _) | apply Below.drew))
          refine wpAnyH_take (i := 0) (oi := _) (v := ?_) rfl (by kernel_rfl) (by kernel_rfl) (by kernel_rfl) (fun _ _ _ h => h) (Or.inl ⟨by rfl, ?_⟩) hHeld ?_
          rotate_left
          · (intro w hSw; (try dsimp only at hSw); go_simp; first | done | with_reducible rfl)
          try simp only [Act.put, List.setIfInBounds_toArray, List.set_cons_zero, List.set_cons_succ, List.getElem_toArray, List.getElem_cons_succ, List.getElem_cons_zero]
          refine wpAnyH_take (i := 1) (oi := _) (v := ?_) rfl (by kernel_rfl) (by kernel_rfl) (by kernel_rfl) (fun _ _ _ h => h) (Or.inl ⟨by rfl, ?_⟩) hHeld ?_
          rotate_left
          · (intro w hSw; (try dsimp only at hSw); go_simp; first | done | with_reducible rfl)
          try simp only [Act.put, List.setIfInBounds_toArray, List.set_cons_zero, List.set_cons_succ, List.getElem_toArray, List.getElem_cons_succ, List.getElem_cons_zero]
          refine wpAnyH_take (i := 2) (oi := _) (v := ?_) rfl (by kernel_rfl) (by kernel_rfl) (by kernel_rfl) (fun _ _ _ h => h) (Or.inl ⟨by rfl, ?_⟩) hHeld ?_
          rotate_left
          · (intro w hSw; (try dsimp only at hSw); go_simp; first | done | with_reducible rfl)
          try simp only [Act.put, List.setIfInBounds_toArray, List.set_cons_zero, List.set_cons_succ, List.getElem_toArray, List.getElem_cons_succ, List.getElem_cons_zero]
          refine wpAnyH_ready (rs := [3]) (by kernel_rfl) (by simp) ?_
          refine AllReadyH.cons (o := _) rfl (fun K hK => ?_) AllReadyH.nil
          go_simp
          (go_at_call 11; obtain ⟨_, _, _, HBx⟩ := ‹_ ∧ _ ∧ _ ∧ Below W4.heap.size W4 _›; have HBW := HB.trans (HBx.mono HB.size); refine (Object_m l k HM.out hl HR.out HS.out A cA vs nv HNV.out hle hvl HFIT.out Av cv x HX.out _ (hA.below HBW) (hV.below HBW)).mono ?_; rintro e' W8 ⟨rfl, hb8⟩; have HB8 : Below W4.heap.size W4 W8 := below_seq HBx hb8)
          try (go_wp2_with fail)
          refine hK.out _ _ ?_ (fun hHeld => ?_)
          · (try dsimp only); (refine hall12 _ ?_; repeat (first | assumption | exact Below.refl _ _ | refine below_seq ?_ (bytesWorld_below _ _ _) | apply Below.drew))
          clear hK K
          try simp only [Act.put, List.setIfInBounds_toArray, List.set_cons_zero, List.set_cons_succ, List.getElem_toArray, List.getElem_cons_succ, List.getElem_cons_zero]
          refine wpAnyH_ready (rs := [4]) (by kernel_rfl) (by simp) ?_
          refine AllReadyH.cons (o := _) rfl (fun K hK => ?_) AllReadyH.nil
          go_simp
          refine hK.out _ _ ?_ (fun hHeld => ?_)
          · (try dsimp only); (refine hall12 _ ?_; repeat (first | assumption | exact Below.refl _ _ | refine below_seq ?_ (bytesWorld_below _ _ _) | apply Below.drew))
          clear hK K
          try simp only [Act.put, List.setIfInBounds_toArray, List.set_cons_zero, List.set_cons_succ, List.getElem_toArray, List.getElem_cons_succ, List.getElem_cons_zero]
          refine wpAnyH_ready (rs := [5]) (by kernel_rfl) (by simp) ?_
          refine AllReadyH.cons (o := _) rfl (fun K hK => ?_) AllReadyH.nil
          go_simp
          (go_at_call 10; obtain ⟨_, _, _, HBx⟩ := ‹_ ∧ _ ∧ _ ∧ Below W4.heap.size W4 _›; refine (tApply_m T X0 X1 X2 y0 y1 y2 ko kn km HKO.out HKN.out HKM.out HTK.out.r HTK.out.w vs HLT.out HFT.out (bl x) x.size HXS.out HZ0.out HGT.out _ _ (grownCap_ge ..) z HZ.out _ (r0.below HBx) (r1.below HBx) (r2.below HBx) (bytesWorld_rd _ _ _)).mono ?_; rintro e' W9 ⟨D, dc, rfl, hdc, RD, hb9⟩; have HB9 : Below W4.heap.size W4 W9 := below_seq HBx hb9)
          try (go_wp2_with fail)
          refine hK.out _ _ ?_ (fun hHeld => ?_)
          · (try dsimp only); (refine hall12 _ ?_; repeat (first | assumption | exact Below.refl _ _ | refine below_seq ?_ (bytesWorld_below _ _ _) | apply Below.drew))
          clear hK K
          try simp only [Act.put, List.setIfInBounds_toArray, List.set_cons_zero, List.set_cons_succ, List.getElem_toArray, List.getElem_cons_succ, List.getElem_cons_zero]
          refine wpAnyH_take (i := 6) (oi := _) (v := ?_) rfl (by kernel_rfl) (by kernel_rfl) (by kernel_rfl) (fun _ _ _ h => h) (Or.inl ⟨by rfl, ?_⟩) hHeld ?_
          rotate_left
          · (intro w hSw; (try dsimp only at hSw); go_simp; first | done | with_reducible rfl)
          try simp only [Act.put, List.setIfInBounds_toArray, List.set_cons_zero, List.set_cons_succ, List.getElem_toArray, List.getElem_cons_succ, List.getElem_cons_zero]
          refine wpAnyH_take (i := 7) (oi := _) (v := ?_) rfl (by kernel_rfl) (by kernel_rfl) (by kernel_rfl) (fun _ _ _ h => h) (Or.inl ⟨by rfl, ?_⟩) hHeld ?_
          rotate_left
          · (intro w hSw; (try dsimp only at hSw); go_simp; first | done | with_reducible rfl)
          try simp only [Act.put, List.setIfInBounds_toArray, List.set_cons_zero, List.set_cons_succ, List.getElem_toArray, List.getElem_cons_succ, List.getElem_cons_zero]
          refine wpAnyH_take (i := 8) (oi := _) (v := ?_) rfl (by kernel_rfl) (by kernel_rfl) (by kernel_rfl) (fun _ _ _ h => h) (Or.inl ⟨by rfl, ?_⟩) hHeld ?_
          rotate_left
          · (intro w hSw; (try dsimp only at hSw); go_simp; first | done | with_reducible rfl)
          try simp only [Act.put, List.setIfInBounds_toArray, List.set_cons_zero, List.set_cons_succ, List.getElem_toArray, List.getElem_cons_succ, List.getElem_cons_zero]
          refine wpAnyH_take (i := 9) (oi := _) (v := ?_) rfl (by kernel_rfl) (by kernel_rfl) (by kernel_rfl) (fun _ _ _ h => h) (Or.inl ⟨by rfl, ?_⟩) hHeld ?_
          rotate_left
          · (intro w hSw; (try dsimp only at hSw); go_simp; first | done | with_reducible rfl)
          try simp only [Act.put, List.setIfInBounds_toArray, List.set_cons_zero, List.set_cons_succ, List.getElem_toArray, List.getElem_cons_succ, List.getElem_cons_zero]
          refine wpAnyH_take (i := 10) (oi := _) (v := ?_) rfl (by kernel_rfl) (by kernel_rfl) (by kernel_rfl) (fun _ _ _ h => h) (Or.inl ⟨by rfl, ?_⟩) hHeld ?_
          rotate_left
          · (intro w hSw; (try dsimp only at hSw); go_simp; first | done | with_reducible rfl)
          try simp only [Act.put, List.setIfInBounds_toArray, List.set_cons_zero, List.set_cons_succ, List.getElem_toArray, List.getElem_cons_succ, List.getElem_cons_zero]
          refine wpAnyH_done (by kernel_rfl) ?_ _
          refine NoPanic.normal ?_
          all_goals (go_wp2_with fail; go_meet; exact ⟨D, dc, rfl, rfl, hdc, RD, HB9⟩)
        case rest =>
          obtain ⟨D, dc, rfl, rfl, hdc, RD, hb12⟩ := hcut
          clear hall12 hcv
          rename World => W9
          have TB9 := TB.below hb12
          have HB9 := HB.trans (hb12.mono HB.size)
          have r19 := r1.below hb12
          clear TB HB r0 r1 r2 hb12
          go_wp2
          go_loopw [6, 13, 14, 15, 16, 73] (fun _ _ _ _ _ i wr => ∃ (j : Nat), j ≤ k ∧ i = .int .i64 j ∧ Below W9.heap.size W9 wr) (fun _ _ _ _ _ i _ => k - (intOf i).toNat)
          case atStart => exact ⟨0, by omega, rfl, Below.refl _ _⟩
          case round =>
            obtain ⟨j, hj1, rfl, hbr⟩ := hrel
            have HB := HB9.trans (hbr.mono HB9.size)
            by_cases hjk : j < k
            · obtain ⟨f, hf⟩ : ∃ f, l[j]? = some f := ⟨_, List.getElem?_eq_getElem (by rw [HM.out]; exact hjk)⟩
              obtain ⟨v, hvk⟩ : ∃ v, vs[j]? = some v := ⟨_, List.getElem?_eq_getElem (by rw [HNV.out]; omega)⟩
              have hi0 : (0 : Int) ≤ (j : Int) := by omega
              have hi1 : (j : Int) < (k : Int) := by omega
              have hi2 : (j : Int) < (nv : Int) := by omega
              obtain ⟨fd, ef, f0, f1, f2⟩ := (hA.below HB).fld hf
              obtain ⟨vd, ev, _, _, _⟩ := hV.vl hvk
              subst ef ev
              obtain ⟨r, hrn⟩ : ∃ r, namedB cs f.s = r := ⟨_, rfl⟩
              have nb := below_new (w := wr) (.cells #[.string f.s, .int .i64 f.k, .int .i64 f.l] 29)
              have FB := OBox.new wr [.string f.s, .int .i64 f.k, .int .i64 f.l] 29
              have hget : r = false → getE (outL T vs kn) T.n f.s = 0 ∧ getV (outL T vs kn) T.n f.s = v := fun h => by
                obtain ⟨i, h1, h2⟩ := HKEEP.out j f (by first | rfl | trivial) hf (named_no_of (by rw [hrn]; exact h))
                obtain ⟨g1, g2⟩ := outL_get HTK.out.r HTK.out.w (by rw [HKO.out]; exact HLT.out) HFT.out h1
                rw [HKN.out] at g1 g2
                exact ⟨g1, g2.trans (keeps_val HTO.out hf hvk (HFIT.out j f v hf hvk).1 h1 h2)⟩
              have holen : (outL T vs kn).length = z := by
                rw [← HZ.out, ← HKN.out]
                exact outL_len HTK.out.r HTK.out.w (by rw [HKO.out]; exact HLT.out) HFT.out (Nat.le_refl _)
              have HVK := Lib.hid hvk; have HRN := Lib.hid hrn; have HGET := Lib.hid hget; have HOL := Lib.hid holen
              have hkn16 : kn ≤ 16 := by have := rightT_16 HTK.out.r; rw [HKN.out] at this; exact this.2.1
              clear hf hvk hrn hget holen
              go_upto_region 18 with fail
              generalize wr.alloc (.cells #[.string f.s, .int .i64 f.k, .int .i64 f.l] 29) = W3' at *
              clear f0 f1 f2
              have hb3 := hbr.trans (nb.mono hbr.size)
              obtain ⟨g0, g1, g2⟩ := FBox3 FB
              cases r
              · obtain ⟨hge, hgv⟩ := HGET.out rfl
                have HGE := Lib.hid hge; have HGV := Lib.hid hgv
                clear hge hgv HGET
                go_upto_region 20 with (first
                  | (go_at_call 12; refine (named_m K cK nc cs HNC.out hk f.s false HRN.out _ (hK.below (HB9.trans (hb3.mono HB9.size))) (fun p hp => (HO.out p hp).below (HB9.trans (hb3.mono HB9.size)))).mono ?_; rintro e W5 ⟨rfl, hb⟩; replace FB := FB.below hb; replace TB5 := (TB9.below hb3).below hb; replace hb3 := hb3.trans (hb.mono hb3.size); clear hb g0 g1 g2; obtain ⟨g0, g1, g2⟩ := FBox3 FB; obtain ⟨_, t1, _, _, _, _⟩ := TB5.f3)
                  | (go_at_call 13; refine (Get_m D z dc (outL T vs kn) HOL.out X1 y1 kn T.n HKN.out f.s v HGV.out 0 HGE.out _ (r19.below hb3) (by omega) (RD.below hb3) hdc).mono ?_; rintro e W6 ⟨rfl, hb⟩; replace hb3 := hb3.trans (hb.mono hb3.size); clear hb))
                have VB := OBox.new W6 [.int .i64 v.k, .int .u64 v.b, .string v.t] 33
                have nb7 := below_new (w := W6) (.cells #[.int .i64 v.k, .int .u64 v.b, .string v.t] 33)
                generalize W6.alloc (.cells #[.int .i64 v.k, .int .u64 v.b, .string v.t] 33) = W7 at *
                have hb7 := hb3.trans (nb7.mono hb3.size)
                have HB7 := HB9.trans (hb7.mono HB9.size)
                have hV7 := hV.below HB7
                clear g0 g1 g2
                refine RW.start (fun w' => Below W7.heap.size W7 w') (by kernel_rfl) (by kernel_rfl) (Below.refl _ _).drew ?_
                repeat (first
                  | (refine' RW.val (by rfl) ?_ ?_; rotate_left; (focus (intro w' hS; have HB5 := hS; obtain ⟨u0, u1, u2, _, _, _⟩ := VlBox (VB.below HB5); obtain ⟨_, ev, v0, v1, v2⟩ := (hV7.below HB5).vl HVK.out; cases ev; clear hS; go_simp; rfl)); simp only [Act.put, List.setIfInBounds_toArray, List.set_cons_zero, List.set_cons_succ])
                  | (refine RW.off (by rfl) ?_; simp only [Act.put, List.setIfInBounds_toArray, List.set_cons_zero, List.set_cons_succ]))
                refine RW.done (fun w' hS => ?_)
                have HB5 := hS; obtain ⟨u0, u1, u2, _, _, _⟩ := VlBox (VB.below HB5); obtain ⟨_, ev, v0, v1, v2⟩ := (hV7.below HB5).vl HVK.out; cases ev; clear hS
                go_wp2
                go_roundw
                case rel => exact ⟨j + 1, by omega, by go_num, hb7.trans (HB5.mono hb7.size)⟩
                case measure => simp [intOf]; omega
              · clear HGET
                go_wp2_with (first
                  | (go_at_call 12; refine (named_m K cK nc cs HNC.out hk f.s true HRN.out _ (hK.below (HB9.trans (hb3.mono HB9.size))) (fun p hp => (HO.out p hp).below (HB9.trans (hb3.mono HB9.size)))).mono ?_; rintro e W5 ⟨rfl, hb⟩; replace hb3 := hb3.trans (hb.mono hb3.size); clear hb))
                go_roundw
                case rel => exact ⟨j + 1, by omega, by go_num, hb3⟩
                case measure => simp [intOf]; omega
            · obtain rfl : j = k := by omega
              go_wp2_with (first
                | (go_at_call 6; refine (alive_calls8 _).mono ?_; rintro e wM ⟨rfl, hb⟩; replace HB := HB.trans (hb.mono HB.size); clear hb))
              go_ret
              exact ⟨rfl, HB⟩
      · have e1 : (q != 0) = true := by simpa using h0
        clear h0
        go_wp2_with (first
          | (go_at_call 6; refine (alive_calls8 _).mono ?_; rintro e wM ⟨rfl, hb⟩; replace HB := HB.trans (hb.mono HB.size); clear hb))
        go_ret
        exact ⟨rfl, HB⟩
theorem ChangeKeeps_row (A : Option Addr) (cA : Nat) (l : List Fd) (K : Option Addr) (cK : Nat) (cs : List (Ch × Value)) (Av : Option Addr) (cv : Nat) (vs : List Vl) (w : World) (hA : Rd w A (cellsF l)) (hmc : l.length ≤ cA) (hz : (∀ f ∈ l, f.s.size ≤ 281474976710656) ∧ l.length ≤ 281474976710656)
    (hK : Rd w K (cellsC cs)) (hkc : cs.length ≤ cK) (hg : ∀ x ∈ cs, ChG w x) (hs : (∀ x ∈ cs, ChS x) ∧ cs.length ≤ 281474976710656) (hV : Rd w Av (cellsVl vs)) (hvl : vs.length ≤ maxLen) (hvs : ∀ v ∈ vs, 0 ≤ v.b ∧ v.b < 18446744073709551616 ∧ v.t.size ≤ maxLen) :
    Calls Tryz.prog 3 #[.slice A l.length cA, .slice K cs.length cK, .slice Av vs.length cv] w fun e w' => e = .returned (.bool true) ∧ Below w.heap.size w w' := by
  have hvl2 : vs.length ≤ 9223372036854775807 := by simp only [maxLen] at hvl; omega
  cases hr : rightF l
  · exact Keeps_no A cA l l.length rfl hmc (by omega) hz.1 K cK cs.length cs rfl (by omega) Av cv vs.length vs rfl hvl2 w hA hK hV hg hs.1 hvs (.inl hr)
  · by_cases h : l.length ≤ vs.length
    · exact Keeps_yes A cA l l.length rfl hmc (by omega) hz.1 K cK cs.length cs rfl (by omega) Av cv vs.length vs rfl hvl2 w hA hK hV hg hs.1 hvs hr h
    · exact Keeps_no A cA l l.length rfl hmc (by omega) hz.1 K cK cs.length cs rfl (by omega) Av cv vs.length vs rfl hvl2 w hA hK hV hg hs.1 hvs (.inr (by omega))
end Go.Proofs.YtehcpjodkadfnaaGreat
/- The law ChangeKeeps: WHATEVER THE INPUT it tells true, it never panics, and the input reads as it did: the row, out of ChangeKeeps_calls. -/
set_option linter.unusedVariables false
set_option linter.unusedSimpArgs false
set_option maxRecDepth 100000
namespace Go.Proofs.YtehcpjodkadfnaaGreat.changeKeeps
open Go.ChangeShapes Go.WideShapes Go.ChangeAt Go.RowKit Go.Joins
open Go.ChangeMaps (open_string shut_string)
theorem own : ownKnob Tryz.prog.godebug = none := by kernel_rfl
theorem laidOut : laidOutB Tryz.prog = true := by kernel_rfl
set_option maxRecDepth 100000 in
theorem lifted (os : Os) (started : os.Started) (H : Type) (enc : TypeId × Value → H) :
    ReturnsInHanded {} Tryz.checked os 3 .any (Rows.changeKeepsSpec.pre6 enc Tryz.prog Tryz.f3 Rows.changeKeepsRow.domain false) (Rows.changeKeepsSpec.post enc Tryz.prog Tryz.f3 false true false false) := by
  refine returnsInHanded_of_change_sized (C := Tryz.checked) own started (by kernel_rfl) Tryz.func3
    (ChangeSpec.witness6 (enc := enc) (C := Tryz.checked) false ⟨#[], #[.slice none 0 0, .slice none 0 0, .slice none 0 0], []⟩ 8 (by kernel_rfl) (by kernel_rfl) (by kernel_rfl) (by kernel_rfl)) ?_
  intro W base args ds gs before hval0 hW hcnd hsz0 _
  have hval : ∀ (j : Nat) t v, Tryz.f3.params[j]? = some t → args[j]? = some v → Value.okWide Tryz.prog W .any base t v := hval0
  have hW' := hW
  obtain ⟨p, q, hA0, hV, rfl, hfz, hnd⟩ := hW
  have hA : DataW.TrodAll enc Tryz.prog W 0 (fun _ => true) true Tryz.f3.params.toList args.toList ds p := hA0
  rw [Tryz.params3] at hA hval
  obtain ⟨v0, vs0, d0, ds0, p0, q0, hargs, rfl, rfl, h0, r0⟩ := trodAll_cons hA
  obtain ⟨v1, vs1, d1, ds1, p1, q1, rfl, rfl, rfl, h1, r1⟩ := trodAll_cons r0
  obtain ⟨v2, vs2, d2, ds2, p2, q2, rfl, rfl, rfl, h2, r2⟩ := trodAll_cons r1
  obtain ⟨rfl, rfl, rfl⟩ := trodAll_nil r2
  obtain rfl : args = #[v0, v1, v2] := by cases args; simp_all
  obtain ⟨rfl, rfl⟩ := trodVars_none hV
  have k0 := h0
  have lt0 : ∀ x ∈ p0, x.block < W.heap.size := by obtain ⟨m, hm⟩ := k0; exact DataW.trod_lt m _ _ _ hm
  obtain ⟨a0, c0, l0, rfl, e0, f0, g0, s0, z0⟩ := open_fldsz (hval 0 22 v0 rfl rfl) h0
  replace z0 := z0 (SzT.of hsz0 (j := 0) rfl rfl)
  have k1 := h1
  have lt1 : ∀ x ∈ p1, x.block < W.heap.size := by obtain ⟨m, hm⟩ := k1; exact DataW.trod_lt m _ _ _ hm
  obtain ⟨a1, c1, l1, rfl, e1, f1, g1, s1, z1⟩ := open_chgs (hval 1 23 v1 rfl rfl) h1
  replace z1 := z1 (SzT.of hsz0 (j := 1) rfl rfl)
  have k2 := h2
  have lt2 : ∀ x ∈ p2, x.block < W.heap.size := by obtain ⟨m, hm⟩ := k2; exact DataW.trod_lt m _ _ _ hm
  obtain ⟨a2, c2, l2, rfl, e2, f2, g2, s2⟩ := open_vals (hval 2 24 v2 rfl rfl) h2
  clear hA0 hval0 hsz0
  refine (ChangeKeeps_row a0 c0 l0 a1 c1 l1 a2 c2 l2 W g0 e0 z0 g1 e1 s1 z1 g2 (Nat.le_trans e2 f2) s2).mono fun e W' ⟨he, bel⟩ => ?_
  subst he
  exact ⟨_, rfl, _, _, _, [], _, [], hW', trodAll_mk1 (shut_bool Tryz.underlying4 _), (trodAll_cons_mk (Below.trod laidOut (by kernel_rfl) (of_decide_eq_true (by kernel_rfl)) k0 bel lt0) (trodAll_cons_mk (Below.trod laidOut (by kernel_rfl) (of_decide_eq_true (by kernel_rfl)) k1 bel lt1) (trodAll_cons_mk (Below.trod laidOut (by kernel_rfl) (of_decide_eq_true (by kernel_rfl)) k2 bel lt2) trodAll_mk0))), rfl, bel.frame _, fun h => by cases h⟩
theorem over : Rows.changeKeepsRow.holds Tryz.pinned (OpenSpec.ofChange Rows.changeKeepsSpec) :=
  OpenClaim.holds_of_wide 3 Tryz.f3 rfl rfl rfl rfl rfl rfl rfl ⟨rfl, rfl, rfl, rfl, rfl⟩ rfl rfl rfl rfl rfl (by kernel_rfl) Tryz.func3 (by kernel_rfl)
    (of_decide_eq_true (by kernel_rfl)) (by unfold Func.isWrapper; first | (rw [if_pos (by decide +kernel)]; kernel_rfl) | (rw [if_neg (by decide +kernel)]; exact ⟨rfl, rfl⟩))
    (fun os started H enc _ => lifted os started H enc)
theorem proved : Rows.ChangeKeepsSaid := over
end Go.Proofs.YtehcpjodkadfnaaGreat.changeKeeps
namespace Go.Proofs.YtehcpjodkadfnaaGreat
/-- The row, under a short name, for the claim. -/
theorem changeKeeps_holds : Rows.ChangeKeepsSaid := changeKeeps.proved
end Go.Proofs.YtehcpjodkadfnaaGreat
