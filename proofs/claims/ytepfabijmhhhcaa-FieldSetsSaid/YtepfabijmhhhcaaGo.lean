/- Layer 6 of the heap, fields, fifteenth part: fields are read. -/
import Derived.Test.YtepfabijmhhhcaaGn
set_option linter.unusedSimpArgs false
set_option linter.unusedVariables false
namespace Go.Proofs.Ytepfabijmhhhcaa
open Go.RowKit

theorem Get1_in (A : Option Addr) (m c : Nat) (b : List UInt8) (hm : b.length = m) (at_ : Int) (p : Nat) (hp : at_ = p) (x : UInt8) (hx : b[p]? = some x) (w : World) (hA : Rd w A (bytesV b)) (hl : m ≤ 9223372036854775807) :
    Calls Try.prog 50 #[.slice A m c, .int .i64 at_, .int .i64 1] w fun e w' => e = .returned (.tuple #[.int .u64 (x.toNat : Int), .bool true]) ∧ Below w.heap.size w w' := by
  subst hm hp
  obtain ⟨h1, h2⟩ := List.getElem?_eq_some_iff.1 hx
  have := Get_some A c b p 1 w hA (by omega) (by decide) (by omega) hl
  have e : (b.drop p).take 1 = [x] := by rw [List.drop_eq_getElem_cons h1, h2]; rfl
  rw [e] at this
  simpa [numL, numN] using this
theorem Get1_out (A : Option Addr) (m c : Nat) (at_ : Int) (h : (m : Int) ≤ at_) (w : World) (hl : m ≤ 9223372036854775807) :
    Calls Try.prog 50 #[.slice A m c, .int .i64 at_, .int .i64 1] w fun e w' => e = .returned (.tuple #[.int .u64 0, .bool false]) ∧ Below w.heap.size w w' :=
  Get_none A m c at_ 1 w hl (.inr (by simp [insB]; omega))
theorem infoFd : (Try.prog.info? 40).map (fun i => (i.zero, i.size, i.bytes)) = some (some (.agg #[.string ⟨#[]⟩, .int .i64 0, .int .i64 0]), 3, 32) := by kernel_rfl
theorem cellsF_append (a b : List Fd) : cellsF (a ++ b) = cellsF a ++ cellsF b := by simp [cellsF]
def ReadF (b : List UInt8) (e : Ending) (w w' : World) : Prop :=
  (∃ l v, decL b = some l ∧ e = .returned (.tuple #[v, .int .i64 0]) ∧ w'.ownsRow w.heap.size 40 3 v l.length (cellsF l)) ∨ (decL b = none ∧ e = .returned (.tuple #[.slice none 0 0, .int .i64 60]))
theorem FDecode_nil (A : Option Addr) (c : Nat) (w : World) :
    Calls Try.prog 33 #[.slice A 0 c] w fun e w' => e = .returned (.tuple #[.slice none 0 0, .int .i64 60]) ∧ Below w.heap.size w w' := by
  go_enter Try.func33, Try.ntmps33
  go_wp2_with (go_at_call 50; refine (Get1_out A 0 c 0 (by omega) _ (by omega)).mono ?_; rintro e w1 ⟨rfl, hb1⟩)
  go_loopw [4, 7, 21] (fun l at_ i wr => l = .slice none 0 0 ∧ at_ = .int .i64 1 ∧ i = .int .u64 0 ∧ Below w.heap.size w wr) (fun _ _ i _ => 0)
  case atStart => exact ⟨rfl, rfl, rfl, hb1⟩
  case round =>
    obtain ⟨rfl, rfl, rfl, HB⟩ := hrel
    go_wp2
    go_ret2
    exact ⟨rfl, HB⟩
theorem decL_stop {c : UInt8} {l0 : List Fd} {r : List UInt8} (hw : ∀ f ∈ l0, wfF f) (hl : l0.length < c.toNat) (hs : stepF r = none) : decL (c :: (l0.flatMap rowF ++ r)) = none := by
  cases hd : decL (c :: (l0.flatMap rowF ++ r)) with
  | none => rfl
  | some l =>
    obtain ⟨h1, h2, h3, h4⟩ := decL_part hw (by omega) hd
    cases hdl : l.drop l0.length with
    | nil => have := congrArg List.length hdl; simp at this; omega
    | cons f t =>
      rw [h3, hdl, List.flatMap_cons, step_row (rightF_wf h4 f (List.mem_of_mem_drop (by rw [hdl]; exact List.mem_cons_self ..)))] at hs
      cases hs
theorem decL_end {c : UInt8} {l0 : List Fd} {r : List UInt8} (hw : ∀ f ∈ l0, wfF f) (hl : l0.length = c.toNat) : decL (c :: (l0.flatMap rowF ++ r)) = if r = [] ∧ rightF l0 = true then some l0 else none := by
  have := rdF_flat hw r (Nat.le_refl l0.length)
  rw [List.take_length, List.drop_length, hl] at this
  rw [decL, this]
  cases r with
  | nil => simp
  | cons x r => simp
theorem at_rest {b pre r : List UInt8} (h : b = pre ++ r) {p : Nat} (hp : p + r.length = b.length) (j : Nat) : b[p + j]? = r[j]? := by
  subst h
  have : p = pre.length := by simp at hp; omega
  subst this
  rw [List.getElem?_append_right (by omega)]; congr 1; omega
theorem drop_rest {b pre r : List UInt8} (h : b = pre ++ r) {p : Nat} (hp : p + r.length = b.length) : b.drop p = r := by
  subst h
  have : p = pre.length := by simp at hp; omega
  subst this
  exact List.drop_left
theorem conv_at {w : World} {A : Option Addr} {l : List UInt8} (h : Rd w A (bytesV l)) (n c : Nat) (hn : l.length = n) : (convert 30 9 (.slice A n c)).run Try.prog w = .ok (.string (strL l)) w := by subst hn; exact conv_str h c
theorem news3 (w : World) (u v x : Value) (T : TypeId) : ∀ j y, [u, v, x][j]? = some y → (w.alloc (.cells #[u, v, x] T)).cell? ((⟨w.heap.size, 0, none⟩ : Addr).add j) = some y := by
  intro j y hj
  match j with
  | 0 => simp at hj; subst hj; exact cell_new w _ T 0 u rfl
  | 1 => simp at hj; subst hj; exact cell_new w _ T 1 v rfl
  | 2 => simp at hj; subst hj; exact cell_new w _ T 2 x rfl
  | j + 3 => simp at hj
set_option maxRecDepth 100000 in
set_option maxHeartbeats 8000000 in
theorem FDecode_cons (A : Option Addr) (cp : Nat) (cnt : UInt8) (q : List UInt8) (w : World) (hA : Rd w A (bytesV (cnt :: q))) (hl : (cnt :: q).length ≤ 2147483647) (hcap : (cnt :: q).length ≤ cp) :
    Calls Try.prog 33 #[.slice A (cnt :: q).length cp] w fun e w' => ReadF (cnt :: q) e w w' ∧ Below w.heap.size w w' := by
  obtain ⟨i0, hi, hz0, hz1, hz2⟩ := info_parts infoFd
  obtain ⟨b, hb⟩ : ∃ b, cnt :: q = b := ⟨_, rfl⟩
  rw [hb] at hA hl hcap ⊢
  have hb0 : b[0]? = some cnt := by rw [← hb]; rfl
  obtain ⟨ad, rfl⟩ := hA.some_of (by rw [← hb]; simp [bytesV])
  have hcnt := cnt.toNat_lt
  have HB0 := Lib.hid hb0
  have HBQ := Lib.hid hb

  clear hb hb0
  go_enter Try.func33, Try.ntmps33
  go_wp2_with (go_at_call 50; refine (Get1_in _ b.length cp b rfl 0 0 rfl cnt HB0.out _ hA (by omega)).mono ?_; rintro e w1 ⟨rfl, hb1⟩)
  go_loopw [4, 7, 21] (fun v a i wr => ∃ (k p : Nat) (l0 : List Fd) (r : List UInt8), k ≤ cnt.toNat ∧ i = .int .u64 k ∧ a = .int .i64 p ∧ wr.ownsRow w.heap.size 40 3 v l0.length (cellsF l0) ∧ l0.length = k ∧ p + r.length = b.length ∧ Hid (q = l0.flatMap rowF ++ r ∧ (∀ f ∈ l0, wfF f)) ∧ Below w.heap.size w wr) (fun _ _ i _ => cnt.toNat - (intOf i).toNat)
  case atStart => exact ⟨0, 1, [], q, by omega, rfl, rfl, own_nil _ _ _ _, rfl, by rw [← HBQ.out]; simp; omega, Lib.hid ⟨rfl, by simp⟩, hb1⟩
  case round =>
    obtain ⟨k, p, l0, r, hk, rfl, rfl, hown, hlk, hpr, HQ, HB⟩ := hrel
    have hAr := hA.below HB
    clear hb1
    by_cases hlt : k < cnt.toNat
    · have hb : b = (cnt :: l0.flatMap rowF) ++ r := by rw [← HBQ.out, HQ.out.1]; rfl
      have hbr := at_rest hb hpr
      have hdr := drop_rest hb hpr
      have hstop : stepF r = none → decL b = none := fun h => by rw [hb]; exact decL_stop HQ.out.2 (by omega) h
      cases r with
      | nil =>
        have HN := Lib.hid (hstop rfl)
        simp only [List.length_nil, Nat.add_zero] at hpr
        subst hpr
        clear HQ HBQ HB0 hown hA hb hbr hdr hstop
        go_wp2_with (go_at_call 50; refine (Get1_out (some ad) b.length cp _ (by omega) _ (by omega)).mono ?_; rintro e w2 ⟨rfl, hb2⟩; have HB := HB.trans (hb2.mono HB.size); clear hb2)
        go_ret2
        exact ⟨.inr ⟨HN.out, rfl⟩, HB⟩
      | cons n r =>
        have h0 := hbr 0
        have h1 := hbr (1 + n.toNat)
        have h2 := hbr (1 + n.toNat + 1)
        rw [List.length_cons] at hpr
        have hn := n.toNat_lt
        rw [show p + 0 = p by omega] at h0
        rw [show 1 + n.toNat = n.toNat + 1 by omega, List.getElem?_cons_succ] at h1
        rw [show 1 + n.toNat + 1 = n.toNat + 1 + 1 by omega, List.getElem?_cons_succ] at h2
        have G0 := Lib.hid h0
        clear h0 hbr
        rcases (by omega : r.length ≤ n.toNat ∨ r.length = n.toNat + 1 ∨ n.toNat + 2 ≤ r.length) with hc | hc | hc
        · have HN := Lib.hid (hstop (by rw [stepF, if_neg (by omega)]))
          have tok1 := True.intro
          clear HQ HBQ HB0 hown hA hb hdr hstop h1 h2
          go_wp2_with (first
            | (have _t := tok1; go_at_call 50; refine (Get1_in (some ad) b.length cp b rfl _ p rfl n G0.out _ hAr (by omega)).mono ?_; rintro e w2 ⟨rfl, hb2⟩; have HB := HB.trans (hb2.mono HB.size); have hAr := hAr.below hb2; clear tok1 hb2)
            | (go_at_call 50; refine (Get1_out (some ad) b.length cp _ (by omega) _ (by omega)).mono ?_; rintro e w2 ⟨rfl, hb2⟩; have HB := HB.trans (hb2.mono HB.size); clear hb2))
          go_ret2
          exact ⟨.inr ⟨HN.out, rfl⟩, HB⟩
        · have HN := Lib.hid (hstop (by rw [stepF, if_neg (by omega)]))
          obtain ⟨x1, hx1⟩ : ∃ x, r[n.toNat]? = some x := ⟨_, List.getElem?_eq_getElem (by omega)⟩
          rw [hx1] at h1
          have G1 := Lib.hid h1
          have tok1 := True.intro
          clear HQ HBQ HB0 hown hA hb hdr hstop h1 h2 hx1
          go_wp2_with (first
            | (have _t := tok1; go_at_call 50; refine (Get1_in (some ad) b.length cp b rfl _ p rfl n G0.out _ hAr (by omega)).mono ?_; rintro e w2 ⟨rfl, hb2⟩; have HB := HB.trans (hb2.mono HB.size); have hAr := hAr.below hb2; clear tok1 hb2; have tok2 := True.intro)
            | (have _t := tok2; go_at_call 50; refine (Get1_in (some ad) b.length cp b rfl _ (p + (n.toNat + 1)) (by omega) x1 G1.out _ hAr (by omega)).mono ?_; rintro e w2 ⟨rfl, hb2⟩; have HB := HB.trans (hb2.mono HB.size); have hAr := hAr.below hb2; clear tok2 hb2)
            | (go_at_call 50; refine (Get1_out (some ad) b.length cp _ (by omega) _ (by omega)).mono ?_; rintro e w2 ⟨rfl, hb2⟩; have HB := HB.trans (hb2.mono HB.size); clear hb2))
          go_ret2
          exact ⟨.inr ⟨HN.out, rfl⟩, HB⟩
        · obtain ⟨x1, hx1⟩ : ∃ x, r[n.toNat]? = some x := ⟨_, List.getElem?_eq_getElem (by omega)⟩
          obtain ⟨x2, hx2⟩ : ∃ x, r[n.toNat + 1]? = some x := ⟨_, List.getElem?_eq_getElem (by omega)⟩
          rw [hx1] at h1
          rw [hx2] at h2
          have G1 := Lib.hid h1
          have G2 := Lib.hid h2
          have hstep : stepF (n :: r) = some (⟨strL (r.take n.toNat), x1.toNat, x2.toNat⟩, r.drop (n.toNat + 2)) := by
            rw [stepF, if_pos hc, List.getD_eq_getElem?_getD, List.getD_eq_getElem?_getD, hx1, hx2]; rfl
          obtain ⟨hrow, hwf⟩ := row_step hstep
          have hx1b := x1.toNat_lt
          have hx2b := x2.toNat_lt
          have tok1 := True.intro
          have HRow := Lib.hid hrow
          have HWf := Lib.hid hwf
          have hd1 : (b.drop (p + 1)).take n.toNat = r.take n.toNat := by
            have : b.drop (p + 1) = r := by rw [← List.drop_drop, hdr]; rfl
            rw [this]
          have HD1 := Lib.hid hd1
          have hcv : ∀ W : World, Rd W (some ad) (bytesV b) → (convert 30 9 (.slice (some ⟨ad.block, ad.off + (p + 1), none⟩) n.toNat (cp - (p + 1)))).run Try.prog W = .ok (.string (strL (r.take n.toNat))) W := fun W hR => by
            have := hR.slice (p + 1) n.toNat
            rw [HD1.out, Addr.add_succ'] at this
            exact conv_at this _ _ (by rw [List.length_take]; omega)
          have HCV := Lib.hid hcv
          have s1 : (p : Int) + 1 ≤ (p : Int) + 1 + (n.toNat : Int) := by omega
          have s2 : (p : Int) + 1 + (n.toNat : Int) ≤ (cp : Int) := by omega
          have s3 : ¬ cp = p + 1 := by omega
          have s4 : ((p : Int) + 1).toNat = p + 1 := by omega
          have s5 : ((p : Int) + 1 + (n.toNat : Int)).toNat = p + 1 + n.toNat := by omega
          clear HB0 hA hb hdr hstop h1 h2 hx1 hx2 hstep hrow hwf hd1 hcv
          go_wp2_with (first
            | (have _t := tok1; go_at_call 50; refine (Get1_in (some ad) b.length cp b rfl _ p rfl n G0.out _ hAr (by omega)).mono ?_; rintro e w2 ⟨rfl, hb2⟩; have HB := HB.trans (hb2.mono HB.size); have hAr := hAr.below hb2; have hown := own_below hown hb2; clear tok1 hb2; have tok2 := True.intro)
            | (have _t := tok2; go_at_call 50; refine (Get1_in (some ad) b.length cp b rfl _ (p + (n.toNat + 1)) (by omega) x1 G1.out _ hAr (by omega)).mono ?_; rintro e w2 ⟨rfl, hb2⟩; have HB := HB.trans (hb2.mono HB.size); have hAr := hAr.below hb2; have hown := own_below hown hb2; clear tok2 hb2; have tok3 := True.intro)
            | (have _t := tok3; go_at_call 50; refine (Get1_in (some ad) b.length cp b rfl _ (p + (n.toNat + 1 + 1)) (by omega) x2 G2.out _ hAr (by omega)).mono ?_; rintro e w2 ⟨rfl, hb2⟩; have HB := HB.trans (hb2.mono HB.size); have hAr := hAr.below hb2; have hown := own_below hown hb2; clear tok3 hb2; have hcv := HCV.out _ hAr)
            | (at_builtin; refine wpList_append_own _ rfl _ _ 22 rfl w.heap.size 40 i0 (.agg #[.string ⟨#[]⟩, .int .i64 0, .int .i64 0]) 3 32 Try.underlying22 hi hz0 hz1 hz2 rfl (by decide) _ _ _ rfl (hown.alloc _) ⟨w2.heap.size, 0, none⟩ 1 1 [.string (strL (r.take n.toNat)), .int .i64 x1.toNat, .int .i64 x2.toNat] rfl rfl ?c1 ?c2 ?c3 ?c4 ?c5 ?_))
          case c1 => exact news3 _ _ _ _ _
          case c2 => intro u hu; simp at hu; rcases hu with rfl | rfl | rfl <;> rfl
          case c3 => simp only [maxLen]; omega
          case c4 => omega
          case c5 => have := HB.size; simp; omega
          intro v' w3 hown' hgrow _
          have hs2 := HB.size
          have HB3 := (HB.alloc hs2 (.cells #[.string (strL (r.take n.toNat)), .int .i64 x1.toNat, .int .i64 x2.toNat] 40)).grown hgrow (by simp; omega) (fun q hq => own_base hown q hq)
          have hown3 : w3.ownsRow w.heap.size 40 3 v' (l0 ++ [(⟨strL (r.take n.toNat), x1.toNat, x2.toNat⟩ : Fd)]).length (cellsF (l0 ++ [⟨strL (r.take n.toNat), x1.toNat, x2.toNat⟩])) :=
            own_eq hown' (by simp [hlk]) (by rw [cellsF_append]; rfl)
          clear hown' hgrow hown hcv
          go_wp2
          go_roundw
          case rel =>
            refine ⟨k + 1, p + 1 + n.toNat + 2, l0 ++ [⟨strL (r.take n.toNat), x1.toNat, x2.toNat⟩], r.drop (n.toNat + 2), by omega, by go_num, by go_num, hown3, by simp; omega, by simp; omega, Lib.hid ⟨?_, ?_⟩, HB3⟩
            · rw [HQ.out.1, HRow.out]; simp
            · intro f hf
              rcases List.mem_append.1 hf with hf | hf
              · exact HQ.out.2 f hf
              · simp at hf; subst hf; exact HWf.out
          case measure => simp [intOf]; omega
    · obtain rfl : k = cnt.toNat := by omega
      have hend := decL_end (c := cnt) HQ.out.2 hlk (r := r)
      rw [← HQ.out.1, HBQ.out] at hend
      cases r with
      | nil =>
        simp only [List.length_nil, Nat.add_zero] at hpr
        subst hpr
        obtain ⟨B, c', rfl, _, _, hrd⟩ := own_rd hown
        have hl16 : l0.length ≤ 9223372036854775807 := by have := cnt.toNat_lt; omega
        cases hr : rightF l0
        · rw [hr] at hend
          have HN : Hid (decL b = none) := Lib.hid (by rw [hend]; simp)
          have HR := Lib.hid hr
          clear hend hr hA hAr HQ HBQ HB0 hlk
          go_wp2_with (go_at_call 15; refine (FRight_is B c' l0 _ HR.out _ hrd hl16).mono ?_; rintro e w2 ⟨rfl, hb2⟩; have HB := HB.trans (hb2.mono HB.size); clear hb2)
          go_ret2
          exact ⟨.inr ⟨HN.out, rfl⟩, HB⟩
        · rw [hr] at hend
          have HN : Hid (decL b = some l0) := Lib.hid (by rw [hend]; simp)
          have HR := Lib.hid hr
          clear hend hr hA hAr HQ HBQ HB0 hlk
          go_wp2_with (go_at_call 15; refine (FRight_is B c' l0 _ HR.out _ hrd hl16).mono ?_; rintro e w2 ⟨rfl, hb2⟩; have HB := HB.trans (hb2.mono HB.size); have hown2 := own_below hown hb2; clear hb2)
          go_ret2
          exact ⟨.inl ⟨_, _, HN.out, rfl, hown2⟩, HB⟩
      | cons x r =>
        have HN : Hid (decL b = none) := Lib.hid (by rw [hend]; simp)
        rw [List.length_cons] at hpr
        have hne : ((p : Int) != (b.length : Int)) = true := by simp; omega
        clear hend hA hAr HQ HBQ HB0 hlk
        go_wp2
        go_ret2
        exact ⟨.inr ⟨HN.out, rfl⟩, HB⟩
theorem FDecode_calls (A : Option Addr) (c : Nat) (b : List UInt8) (w : World) (hA : Rd w A (bytesV b)) (hl : b.length ≤ 2147483647) (hcap : b.length ≤ c) :
    Calls Try.prog 33 #[.slice A b.length c] w fun e w' => ReadF b e w w' ∧ Below w.heap.size w w' := by
  cases b with
  | nil =>
    refine (FDecode_nil A c w).mono ?_
    rintro e w' ⟨rfl, hb⟩
    exact ⟨.inr ⟨rfl, rfl⟩, hb⟩
  | cons x q => exact FDecode_cons A c x q w hA hl hcap
end Go.Proofs.Ytepfabijmhhhcaa
