/- Layer 6 of the heap, fields, twenty-first part: the reference reads fields. -/
import Derived.Test.YtepfabijmhhhcaaGt
set_option linter.unusedSimpArgs false
set_option linter.unusedVariables false
namespace Go.Proofs.Ytepfabijmhhhcaa
open Go.RowKit

theorem decL_whole {c : UInt8} {l0 l : List Fd} {r : List UInt8} (hw : ∀ f ∈ l0, wfF f) (h : decL (c :: (l0.flatMap rowF ++ r)) = some l) : l0 = l.take l0.length ∧ r = (l.drop l0.length).flatMap rowF ∧ rightF l = true := by
  obtain ⟨hr, he⟩ := (decL_iff _ _).1 h
  have h16 := (rightF_may hr).2
  rw [encFL] at he
  injection he with he1 he2
  have hc : l.length = c.toNat := by rw [← he1, u8_nat (by omega)]
  rcases Nat.lt_or_ge l.length l0.length with hlt | hge
  · exfalso
    have e1 := rdF_flat hw r (k := l.length) (by omega)
    have e2 := rdF_flat (rightF_wf hr) [] (Nat.le_refl l.length)
    rw [List.append_nil, he2, e1] at e2
    simp at e2
    have := e2.2.1
    cases hd : l0.drop l.length with
    | nil => have := congrArg List.length hd; simp at this; omega
    | cons f t => have := this f (by rw [hd]; exact List.mem_cons_self ..); simp [rowF] at this
  · obtain ⟨_, h2, h3, h4⟩ := decL_part hw (by omega) h
    exact ⟨h2, h3, h4⟩
theorem decL_stop2 {c : UInt8} {l0 : List Fd} {r : List UInt8} (hw : ∀ f ∈ l0, wfF f) (hne : r ≠ []) (hs : stepF r = none) : decL (c :: (l0.flatMap rowF ++ r)) = none := by
  cases hd : decL (c :: (l0.flatMap rowF ++ r)) with
  | none => rfl
  | some l =>
    obtain ⟨h2, h3, h4⟩ := decL_whole hw hd
    cases hdl : l.drop l0.length with
    | nil => rw [hdl] at h3; exact absurd h3 hne
    | cons f t =>
      rw [h3, hdl, List.flatMap_cons, step_row (rightF_wf h4 f (List.mem_of_mem_drop (by rw [hdl]; exact List.mem_cons_self ..)))] at hs
      cases hs
theorem decL_end2 {c : UInt8} {l0 : List Fd} (hw : ∀ f ∈ l0, wfF f) : decL (c :: l0.flatMap rowF) = if rightF l0 = true ∧ encFL l0 = c :: l0.flatMap rowF then some l0 else none := by
  split
  · rename_i h; exact (decL_iff _ _).2 h
  · rename_i hn
    cases hd : decL (c :: l0.flatMap rowF) with
    | none => rfl
    | some l =>
      have hd' : decL (c :: (l0.flatMap rowF ++ [])) = some l := by rw [List.append_nil]; exact hd
      obtain ⟨h2, h3, h4⟩ := decL_whole hw hd'
      have : l.drop l0.length = [] := by
        cases hdl : l.drop l0.length with
        | nil => rfl
        | cons f t => rw [hdl] at h3; simp [rowF] at h3
      have hl : l0 = l := by
        have e := List.take_append_drop l0.length l
        rw [this, ← h2, List.append_nil] at e
        exact e
      subst hl
      exact absurd ((decL_iff _ _).1 hd) hn
theorem bl_get (s : ByteArray) (i : Nat) (x : UInt8) (h : (bl s)[i]? = some x) : ∃ hi : i < s.size, s[i]'hi = x := by
  obtain ⟨h1, h2⟩ := List.getElem?_eq_some_iff.1 h
  refine ⟨by rw [← bl_length]; exact h1, ?_⟩
  rw [← h2]; rfl
theorem rFEncode_is (A : Option Addr) (c m : Nat) (fs : List Fd) (hm : fs.length = m) (w : World) (hA : Rd w A (cellsF fs)) (hl : m ≤ 9223372036854775807) (hs : ∀ f ∈ fs, f.s.size ≤ 9223372036854775807) (p : ByteArray) (q : Int) (hp : strL (wrL fs) = p) (hq : wrE fs = q) :
    Calls Try.prog 32 #[.slice A m c] w fun e w' => e = .returned (.tuple #[.string p, .int .i64 q]) ∧ Below w.heap.size w w' := by
  subst hp hq hm; exact rFEncode_calls A c fs w hA hl hs
set_option maxHeartbeats 4000000 in
theorem rFDecode_nil (w : World) :
    Calls Try.prog 34 #[.string ⟨#[]⟩] w fun e w' => e = .returned (.tuple #[.slice none 0 0, .int .i64 60]) ∧ Below w.heap.size w w' := by
  have h0 : wrL [] = [0] := by decide
  have h1 : wrE [] = 0 := by decide
  obtain ⟨p, hp⟩ : ∃ p, strL (wrL []) = p := ⟨_, rfl⟩
  have ht : (p.toList == []) = false := by rw [← hp, h0, beq_eq_false_iff_ne, ByteArray.toList_eq]; simp [strL]
  have HP := Lib.hid hp
  have H1 := Lib.hid h1
  clear hp h0 h1
  go_enter Try.func34, Try.ntmps34
  go_wp2
  go_loopw [4, 5] (fun l at_ wr => l = .slice none 0 0 ∧ at_ = .int .i64 1 ∧ wr = w) (fun _ _ _ => 0)
  case atStart => exact ⟨rfl, rfl, rfl⟩
  case round =>
    obtain ⟨rfl, rfl, rfl⟩ := hrel
    go_wp2_with (go_at_call 32; refine (rFEncode_is none 0 0 [] rfl _ (Rd.nil _ _) (by omega) (by simp) p 0 HP.out H1.out).mono ?_; rintro e w2 ⟨rfl, hb2⟩)
    go_ret2
    exact ⟨rfl, hb2⟩
set_option maxRecDepth 100000 in
set_option maxHeartbeats 8000000 in
theorem rFDecode_cons (s : ByteArray) (cnt : UInt8) (q : List UInt8) (hsq : bl s = cnt :: q) (hl : s.size ≤ 2147483647) (w : World) :
    Calls Try.prog 34 #[.string s] w fun e w' => ReadF (bl s) e w w' ∧ Below w.heap.size w w' := by
  obtain ⟨i0, hi, hz0, hz1, hz2⟩ := info_parts infoFd
  have hcnt := cnt.toNat_lt
  have hbl := bl_length s
  have HSQ := Lib.hid hsq
  have hs1 : 1 + q.length = s.size := by rw [← hbl, hsq]; simp; omega
  clear hsq hbl
  go_enter Try.func34, Try.ntmps34
  go_wp2
  go_loopw [4, 5] (fun v a wr => ∃ (p : Nat) (l0 : List Fd) (r : List UInt8), a = .int .i64 p ∧ wr.ownsRow w.heap.size 40 3 v l0.length (cellsF l0) ∧ l0.length ≤ p ∧ p + r.length = s.size ∧ Hid (q = l0.flatMap rowF ++ r ∧ (∀ f ∈ l0, wfF f)) ∧ Below w.heap.size w wr) (fun _ a _ => s.size - (intOf a).toNat)
  case atStart => exact ⟨1, [], q, rfl, own_nil _ _ _ _, by simp, hs1, Lib.hid ⟨rfl, by simp⟩, Below.refl _ _⟩
  case round =>
    obtain ⟨p, l0, r, rfl, hown, hlp, hpr, HQ, HB⟩ := hrel
    have hb : bl s = (cnt :: l0.flatMap rowF) ++ r := by rw [HSQ.out, HQ.out.1]; rfl
    have hbr := at_rest hb (by rw [bl_length]; exact hpr)
    have hdr := drop_rest hb (by rw [bl_length]; exact hpr)
    cases r with
    | nil =>
      simp only [List.length_nil, Nat.add_zero] at hpr
      subst hpr
      rw [List.append_nil] at hb
      have hend := decL_end2 (c := cnt) HQ.out.2
      rw [← hb] at hend
      obtain ⟨B, c', rfl, _, _, hrd⟩ := own_rd hown
      obtain ⟨x, hx⟩ : ∃ x, strL (wrL l0) = x := ⟨_, rfl⟩
      obtain ⟨e, he⟩ : ∃ x, wrE l0 = x := ⟨_, rfl⟩
      obtain ⟨m, hm⟩ : ∃ m, l0.length = m := ⟨_, rfl⟩
      have hsz : ∀ f ∈ l0, f.s.size ≤ 9223372036854775807 := fun f hf => by have := (HQ.out.2 f hf).1; omega
      have hcase : (e = 0 ∧ (x.toList == s.toList) = true ∧ decL (bl s) = some l0) ∨ (e = 0 ∧ (x.toList == s.toList) = false ∧ decL (bl s) = none) ∨ (e = 60 ∧ decL (bl s) = none) := by
        cases hr : rightF l0
        · exact .inr (.inr ⟨by rw [← he]; simp [wrE, hr], by rw [hend]; simp [hr]⟩)
        · have h1 : wrL l0 = encFL l0 := by simp [wrL, hr]
          have h2 : e = 0 := by rw [← he]; simp [wrE, hr]
          by_cases hxs : x = s
          · refine .inl ⟨h2, by rw [hxs]; simp, ?_⟩
            have : encFL l0 = bl s := by rw [← hxs, ← hx, h1, bl_strL]
            rw [hend, this]; simp [hr]
          · refine .inr (.inl ⟨h2, by rw [beq_eq_false_iff_ne, Ne, toList_iff]; exact hxs, ?_⟩)
            rw [hend, if_neg]
            rintro ⟨_, h⟩
            apply hxs
            rw [← hx, h1, h, strL_bl]
      have HX := Lib.hid hx
      have HE := Lib.hid he
      have HM := Lib.hid hm
      rw [hm] at hown ⊢
      have hlm : m ≤ 9223372036854775807 := by omega
      clear hend hx he hb hbr hdr hm
      rcases hcase with ⟨rfl, ht, hd⟩ | ⟨rfl, ht, hd⟩ | ⟨rfl, hd⟩
      all_goals
        have HD := Lib.hid hd
        clear hd
        go_wp2_with (go_at_call 32; refine (rFEncode_is B c' m l0 HM.out _ hrd hlm hsz x _ HX.out HE.out).mono ?_; rintro e w2 ⟨rfl, hb2⟩; have hown2 := own_below hown hb2; have HB2 := HB.trans (hb2.mono HB.size))
        go_ret2
        first
          | exact ⟨.inr ⟨HD.out, rfl⟩, HB2⟩
          | exact ⟨.inl ⟨_, _, HD.out, rfl, own_eq hown2 HM.out.symm rfl⟩, HB2⟩
    | cons n r =>
      have h0 := hbr 0
      have h1 := hbr (1 + n.toNat)
      have h2 := hbr (1 + n.toNat + 1)
      rw [List.length_cons] at hpr
      have hn := n.toNat_lt
      rw [show p + 0 = p by omega] at h0
      rw [show 1 + n.toNat = n.toNat + 1 by omega, List.getElem?_cons_succ] at h1
      rw [show 1 + n.toNat + 1 = n.toNat + 1 + 1 by omega, List.getElem?_cons_succ] at h2
      obtain ⟨g0, G0⟩ := bl_get s p n h0
      rcases (by omega : r.length < n.toNat + 2 ∨ n.toNat + 2 ≤ r.length) with hc | hc
      · have hd : decL (bl s) = none := by
          rw [hb]; exact decL_stop2 HQ.out.2 (by simp) (by rw [stepF, if_neg (by omega)])
        have HD := Lib.hid hd
        clear hd hb hbr hdr h0 h1 h2
        go_wp2
        go_ret2
        exact ⟨.inr ⟨HD.out, rfl⟩, HB⟩
      · obtain ⟨x1, hx1⟩ : ∃ x, r[n.toNat]? = some x := ⟨_, List.getElem?_eq_getElem (by omega)⟩
        obtain ⟨x2, hx2⟩ : ∃ x, r[n.toNat + 1]? = some x := ⟨_, List.getElem?_eq_getElem (by omega)⟩
        rw [hx1] at h1
        rw [hx2] at h2
        obtain ⟨g1, G1⟩ := bl_get s _ x1 h1
        obtain ⟨g2, G2⟩ := bl_get s _ x2 h2
        have hstep : stepF (n :: r) = some (⟨strL (r.take n.toNat), x1.toNat, x2.toNat⟩, r.drop (n.toNat + 2)) := by
          rw [stepF, if_pos hc, List.getD_eq_getElem?_getD, List.getD_eq_getElem?_getD, hx1, hx2]; rfl
        obtain ⟨hrow, hwf⟩ := row_step hstep
        have hx1b := x1.toNat_lt
        have hx2b := x2.toNat_lt
        have hsub : s.extract (p + 1) (p + 1 + n.toNat) = strL (r.take n.toNat) := by
          rw [← strL_bl (s.extract _ _), bl_extract]
          have e1 : (bl s).drop (p + 1) = r := by rw [← List.drop_drop, hdr]; rfl
          rw [e1, show p + 1 + n.toNat - (p + 1) = n.toNat by omega]
        obtain ⟨sub, hsn⟩ : ∃ x, strL (r.take n.toNat) = x := ⟨_, rfl⟩
        rw [hsn] at hsub
        have HRow := Lib.hid hrow
        have HWf := Lib.hid hwf
        have HSN := Lib.hid hsn
        have hix : ∀ (i : Nat) (x : UInt8) (h : i < s.size) (W : World) (j : Int), s[i]'h = x → j = (i : Int) → (Instr.index 9 (.string s) (.int .i64 j)).run Try.prog W = .ok (.int .u8 (x.toNat : Int)) W := fun i x h W j hx hj => by
          subst hx hj
          rw [run_index_string (P := Try.prog) W 9 s .i64 i Try.underlying9]
          simp [h]
        have ix1 : ∀ W : World, (Instr.index 9 (.string s) (.int .i64 ((p : Int) + 1 + (n.toNat : Int)))).run Try.prog W = .ok (.int .u8 (x1.toNat : Int)) W := fun W => hix _ x1 g1 W _ G1 (by omega)
        have ix2 : ∀ W : World, (Instr.index 9 (.string s) (.int .i64 ((p : Int) + 2 + (n.toNat : Int)))).run Try.prog W = .ok (.int .u8 (x2.toNat : Int)) W := fun W => hix _ x2 g2 W _ G2 (by omega)
        have s1 : (p : Int) + 1 ≤ (p : Int) + 1 + (n.toNat : Int) := by omega
        have s2 : (p : Int) + 1 + (n.toNat : Int) ≤ (s.size : Int) := by omega
        have s4 : ((p : Int) + 1).toNat = p + 1 := by omega
        have s5 : ((p : Int) + 1 + (n.toNat : Int)).toNat = p + 1 + n.toNat := by omega
        have s6 : (0 : Int) ≤ (p : Int) + 1 := by omega
        have s7 : (0 : Int) ≤ (p : Int) + 1 + (n.toNat : Int) := by omega
        have hl0 : l0.length ≤ 2147483647 := by omega
        clear hb hbr hdr h0 h1 h2 hx1 hx2 hstep hrow hwf hsn hix G1 G2
        go_wp2
        have hw1 : IntKind.i64.wrap ((p : Int) + 1) = (p : Int) + 1 := IntWalk.i64_in _ (by omega)
        have hw2 : IntKind.i64.wrap ((p : Int) + 1 + (n.toNat : Int)) = (p : Int) + 1 + (n.toNat : Int) := IntWalk.i64_in _ (by omega)
        have hw3 : IntKind.i64.wrap ((p : Int) + 2) = (p : Int) + 2 := IntWalk.i64_in _ (by omega)
        have hw4 : IntKind.i64.wrap ((p : Int) + 2 + (n.toNat : Int)) = (p : Int) + 2 + (n.toNat : Int) := IntWalk.i64_in _ (by omega)
        have hw5 : IntKind.i64.wrap (x1.toNat : Int) = (x1.toNat : Int) := IntWalk.i64_in _ (by omega)
        have hw6 : IntKind.i64.wrap (x2.toNat : Int) = (x2.toNat : Int) := IntWalk.i64_in _ (by omega)
        have hn1 : ∀ j u, [Value.string sub, .int .i64 x1.toNat, .int .i64 x2.toNat][j]? = some u → (wr.alloc (.cells #[.string sub, .int .i64 x1.toNat, .int .i64 x2.toNat] 40)).drew.cell? ((⟨wr.heap.size, 0, none⟩ : Addr).add j) = some u := news3 wr _ _ _ _
        have hsz := HB.size
        have hnz : (1 : Nat) ≤ 1 := by omega
        go_region_held3 (fun w' => True) (first | go_keep | trivial)
          ((refine step_append_lies _ (by rfl) _ _ _ (by rfl) w.heap.size 40 i0 (.agg #[.string ⟨#[]⟩, .int .i64 0, .int .i64 0]) 3 32 Try.underlying22 hi hz0 hz1 hz2 rfl (by omega) u4 l0.length (cellsF l0) (by rfl) ((hown.alloc _).drew) ⟨wr.heap.size, 0, none⟩ 1 1 [.string sub, .int .i64 x1.toNat, .int .i64 x2.toNat] (by rfl) (by rfl) hn1 (by simp [Value.oneCell']) (by omega) (by unfold maxLen; omega) (by omega) (by simp; omega) (wr.heap.size + 1) (by simp) ?_; intro g cap w2 hown2 hgrow1 hat hlt2))
        all_goals
          have hsu : w.heap.size ≤ (wr.alloc (.cells #[.string sub, .int .i64 x1.toNat, .int .i64 x2.toNat] 40)).drew.heap.size := Nat.le_trans hsz (by simp)
          have HB3 : Below w.heap.size w w2 := Below.grown (w := (wr.alloc (.cells #[.string sub, .int .i64 x1.toNat, .int .i64 x2.toNat] 40)).drew) (HB.alloc hsz _).drew hgrow1 hsu (fun q hq => own_base hown q hq)
          have hown3 : w2.ownsRow w.heap.size 40 3 (.slice (some ⟨g, 0, none⟩) (l0.length + 1) cap) (l0 ++ [(⟨sub, x1.toNat, x2.toNat⟩ : Fd)]).length (cellsF (l0 ++ [⟨sub, x1.toNat, x2.toNat⟩])) :=
            own_eq hown2 (by simp) (by rw [cellsF_append]; rfl)
          clear hw1 hw2 hw3 hw4 hw5 hw6 hown2 hgrow1 hown hn1 hsu hat hlt2
          go_wp2
          go_roundw
          case rel =>
            refine ⟨p + 3 + n.toNat, l0 ++ [⟨sub, x1.toNat, x2.toNat⟩], r.drop (n.toNat + 2), by go_num, hown3, by simp; omega, by simp; omega, Lib.hid ⟨?_, ?_⟩, HB3⟩
            · rw [HQ.out.1, HRow.out, HSN.out]; simp
            · intro f hf
              rcases List.mem_append.1 hf with hf | hf
              · exact HQ.out.2 f hf
              · simp at hf; subst hf; rw [← HSN.out]; exact HWf.out
          case measure => simp [intOf]; omega
theorem rFDecode_calls (s : ByteArray) (hl : s.size ≤ 2147483647) (w : World) :
    Calls Try.prog 34 #[.string s] w fun e w' => ReadF (bl s) e w w' ∧ Below w.heap.size w w' := by
  cases h : bl s with
  | nil =>
    have hs : s = ⟨#[]⟩ := by rw [← strL_bl s, h]; rfl
    subst hs
    refine (rFDecode_nil w).mono ?_
    rintro e w' ⟨rfl, hb⟩
    exact ⟨.inr ⟨rfl, rfl⟩, hb⟩
  | cons x q =>
    have := rFDecode_cons s x q h hl w
    rwa [h] at this
end Go.Proofs.Ytepfabijmhhhcaa
