/- FieldBytes, walked: it tells true. -/
import Derived.Test.YtepfabijmhhhcaaHa
set_option linter.unusedSimpArgs false
set_option linter.unusedVariables false
namespace Go.Proofs.Ytepfabijmhhhcaa
open Go.RowKit

/-- what is read, and what is amiss -/
def dlL (b : List UInt8) : List Fd := (decL b).getD []
def dqE (b : List UInt8) : Int := if (decL b).isSome then 0 else 60
theorem readF_m {b : List UInt8} {e : Ending} {w w' : World} (h : ReadF b e w w') : ∃ B c', e = .returned (.tuple #[.slice B (dlL b).length c', .int .i64 (dqE b)]) ∧ Rd w' B (cellsF (dlL b)) := by
  rcases h with ⟨l, v, hd, rfl, ho⟩ | ⟨hd, rfl⟩
  · obtain ⟨B, c', rfl, _, _, hr⟩ := own_rd ho
    have e1 : dlL b = l := by simp [dlL, hd]
    have e2 : dqE b = 0 := by simp [dqE, hd]
    rw [e1, e2]
    exact ⟨B, c', rfl, hr⟩
  · have e1 : dlL b = [] := by simp [dlL, hd]
    have e2 : dqE b = 60 := by simp [dqE, hd]
    rw [e1, e2]
    exact ⟨none, 0, rfl, Rd.nil _ _⟩
theorem Decode6_m (Ab : Option Addr) (nb cb : Nat) (b : List UInt8) (hb0 : b.length = nb) (l : List Fd) (hl : dlL b = l) (n : Nat) (hn : l.length = n) (q : Int) (hq : dqE b = q) (w : World) (hb : Rd w Ab (bytesV b)) (hnb : nb ≤ 2147483647) (hcb : nb ≤ cb) :
    Calls Try.prog 33 #[.slice Ab nb cb] w fun e w' => ∃ B c', e = .returned (.tuple #[.slice B n c', .int .i64 q]) ∧ Rd w' B (cellsF l) ∧ Below w.heap.size w w' := by
  subst hb0 hl hn hq
  refine (FDecode_calls Ab cb b w hb hnb hcb).mono ?_
  rintro e w' ⟨hr, hb⟩
  obtain ⟨B, c', rfl, h⟩ := readF_m hr
  exact ⟨B, c', rfl, h, hb⟩
theorem rDecode6_m (s : ByteArray) (b : List UInt8) (hb0 : bl s = b) (l : List Fd) (hl : dlL b = l) (n : Nat) (hn : l.length = n) (q : Int) (hq : dqE b = q) (w : World) (hnb : s.size ≤ 2147483647) :
    Calls Try.prog 34 #[.string s] w fun e w' => ∃ B c', e = .returned (.tuple #[.slice B n c', .int .i64 q]) ∧ Rd w' B (cellsF l) ∧ Below w.heap.size w w' := by
  subst hb0 hl hn hq
  refine (rFDecode_calls s hnb w).mono ?_
  rintro e w' ⟨hr, hb⟩
  obtain ⟨B, c', rfl, h⟩ := readF_m hr
  exact ⟨B, c', rfl, h, hb⟩
theorem sameFB_refl (a : List Fd) : sameFB a a = true := by simp [sameFB]
theorem dlL_size (b : List UInt8) : (dlL b).length ≤ 16 := by
  unfold dlL
  cases h : decL b with
  | none => simp
  | some l => exact (rightF_may ((decL_iff b l).1 h).1).2
theorem dec_back (fs : List Fd) : (rightF fs = true ∧ wrE fs = 0 ∧ dlL (wrL fs) = fs ∧ dqE (wrL fs) = 0) ∨ (wrE fs = 60 ∧ dlL (wrL fs) = [] ∧ dqE (wrL fs) = 60) := by
  cases hr : rightF fs
  · have e1 : wrL fs = [] := by simp [wrL, hr]
    refine .inr ⟨by simp [wrE, hr], ?_, ?_⟩
    · rw [e1]; rfl
    · rw [e1]; rfl
  · have e1 : wrL fs = encFL fs := by simp [wrL, hr]
    refine .inl ⟨rfl, by simp [wrE, hr], ?_, ?_⟩
    · rw [e1, dlL, decL_enc hr]; rfl
    · rw [e1, dqE, decL_enc hr]; rfl
theorem wrL_size (fs : List Fd) : (wrL fs).length ≤ 1000 := by
  unfold wrL
  split
  · rename_i hr
    have h16 := (rightF_may hr).2
    have := flat_length fs (fun f hf => (name_size (rightF_name hr hf)).2)
    simp only [encFL, List.length_cons]; omega
  · simp
set_option maxHeartbeats 8000000 in
theorem FieldBytes_calls (A : Option Addr) (c : Nat) (fs : List Fd) (Ab : Option Addr) (cb : Nat) (b : List UInt8) (w : World) (hA : Rd w A (cellsF fs)) (hl : fs.length ≤ 9223372036854775807) (hs : ∀ f ∈ fs, f.s.size ≤ 9223372036854775807) (hcb : b.length ≤ cb) (hcm : cb ≤ maxLen) (hb : Rd w Ab (bytesV b)) :
    Calls Try.prog 10 #[.slice A fs.length c, .slice Ab b.length cb] w fun e w' => e = .returned (.bool true) ∧ Below w.heap.size w w' := by
  have hback := dec_back fs
  have hws := wrL_size fs
  have hdl := dlL_size b
  have hdx := dlL_size (wrL fs)
  have hfew := few_calls A c fs w hA hl
  have HB := Below.refl w.heap.size w
  obtain ⟨x, hx⟩ : ∃ x, wrL fs = x := ⟨_, rfl⟩
  obtain ⟨q, hq⟩ : ∃ x, wrE fs = x := ⟨_, rfl⟩
  obtain ⟨xs, hxs⟩ : ∃ y, strL x = y := ⟨_, rfl⟩
  obtain ⟨n, hn⟩ : ∃ y, x.length = y := ⟨_, rfl⟩
  obtain ⟨l1, hl1⟩ : ∃ y, dlL b = y := ⟨_, rfl⟩
  obtain ⟨n1, hn1⟩ : ∃ y, l1.length = y := ⟨_, rfl⟩
  obtain ⟨q1, hq1⟩ : ∃ y, dqE b = y := ⟨_, rfl⟩
  obtain ⟨l2, hl2⟩ : ∃ y, dlL x = y := ⟨_, rfl⟩
  obtain ⟨n2, hn2⟩ : ∃ y, l2.length = y := ⟨_, rfl⟩
  obtain ⟨q2, hq2⟩ : ∃ y, dqE x = y := ⟨_, rfl⟩
  obtain ⟨bs, hbs⟩ : ∃ y, strL b = y := ⟨_, rfl⟩
  obtain ⟨nb, hnb⟩ : ∃ y, b.length = y := ⟨_, rfl⟩
  obtain ⟨m, hm⟩ : ∃ y, fs.length = y := ⟨_, rfl⟩
  rw [hx] at hback hws hdx
  rw [hq, hl2, hq2] at hback
  rw [hl2, hn2] at hdx
  rw [hl1, hn1] at hdl
  rw [hn] at hws
  have hbsz : bs.size = nb := by rw [← hbs, strL_size]; exact hnb
  have hbsl : bl bs = b := by rw [← hbs, bl_strL]
  rw [hm] at hl hfew ⊢
  rw [hnb] at hcb ⊢
  have HX := Lib.hid hx
  have HQ := Lib.hid hq
  have HXS := Lib.hid hxs
  have HXS2 : Hid (strL (wrL fs) = xs) := Lib.hid (by rw [hx]; exact hxs)
  have HN := Lib.hid hn
  have HL1 := Lib.hid hl1
  have HN1 := Lib.hid hn1
  have HQ1 := Lib.hid hq1
  have HL2 := Lib.hid hl2
  have HN2 := Lib.hid hn2
  have HQ2 := Lib.hid hq2
  have HBS := Lib.hid hbs
  have HNB := Lib.hid hnb
  have HM := Lib.hid hm
  have HSZ := Lib.hid hbsz
  have HSL := Lib.hid hbsl
  have hcv1 : ∀ W : World, Rd W Ab (bytesV b) → (convert 30 9 (.slice Ab nb cb)).run Try.prog W = .ok (.string bs) W := fun W h => by
    have := conv_at h nb cb HNB.out
    rwa [HBS.out] at this
  have hcv2 : ∀ (W : World) (B : Option Addr) (c' : Nat), Rd W B (bytesV x) → (convert 30 9 (.slice B n c')).run Try.prog W = .ok (.string xs) W := fun W B c' h => by
    have := conv_at h n c' HN.out
    rwa [HXS.out] at this
  have HC1 := Lib.hid hcv1
  have HC2 := Lib.hid hcv2
  have hxx : (xs.toList == xs.toList) = true := by simp
  have hqq : (q == q) = true := by simp
  have hqq1 : (q1 == q1) = true := by simp
  have tok1 := True.intro
  clear hx hq hxs hn hl1 hn1 hq1 hl2 hn2 hq2 hbs hnb hm hbsz hbsl hcv1 hcv2
  have hcase : (l2 = fs ∧ n2 = m ∧ q = 0 ∧ q2 = 0) ∨ (q != 0) = true := by
    rcases hback with ⟨_, rfl, h2, rfl⟩ | ⟨rfl, _, _⟩
    · exact .inl ⟨h2, by rw [← HN2.out, h2]; exact HM.out, rfl, rfl⟩
    · exact .inr rfl
  clear hback
  rcases hcase with ⟨rfl, rfl, rfl, rfl⟩ | hq0
  · go_enter Try.func10, Try.ntmps10
    go_wp2_with (first
      | (go_at_call 11; refine hfew.mono ?_; rintro e w1 ⟨rf, rfl, hr40, hb'⟩; have HB := HB.trans (hb'.mono HB.size); have hA := hA.below hb'; have hb := hb.below hb'; clear hb' hr40)
      | (have _t := tok1; go_at_call 31; refine (Encode_m A c n2 l2 HM.out x HX.out n HN.out 0 HQ.out _ hA hl).mono ?_; rintro e wM ⟨B1, c1, rfl, hc1, r1, hb'⟩; have HB := HB.trans (hb'.mono HB.size); have hA := hA.below hb'; have hb := hb.below hb'; clear hb' tok1; have tok2 := True.intro)
      | (have _t := tok2; go_at_call 32; refine (rFEncode_is A c n2 l2 HM.out _ hA hl hs xs 0 HXS2.out HQ.out).mono ?_; rintro e wM ⟨rfl, hb'⟩; have HB := HB.trans (hb'.mono HB.size); have hA := hA.below hb'; have hb := hb.below hb'; have r1 := r1.below hb'; clear hb' tok2; have tok3 := True.intro)
      | (have _t := tok3; go_at_call 33; refine (Decode6_m Ab nb cb b HNB.out l1 HL1.out n1 HN1.out q1 HQ1.out _ hb (by omega) hcb).mono ?_; rintro e wM ⟨B3, c3, rfl, r3, hb'⟩; have HB := HB.trans (hb'.mono HB.size); have hA := hA.below hb'; have hb := hb.below hb'; have r1 := r1.below hb'; have hcv := HC1.out _ hb; clear hb' tok3; have tok4 := True.intro)
      | (have _t := tok4; go_at_call 34; refine (rDecode6_m bs b HSL.out l1 HL1.out n1 HN1.out q1 HQ1.out _ (by rw [HSZ.out]; omega)).mono ?_; rintro e wM ⟨B4, c4, rfl, r4, hb'⟩; have HB := HB.trans (hb'.mono HB.size); have hA := hA.below hb'; have r1 := r1.below hb'; have r3 := r3.below hb'; clear hb' tok4 hcv; have tok5 := True.intro)
      | (have _t := tok5; go_at_call 33; refine (Decode6_m B1 n c1 x HN.out l2 HL2.out n2 HM.out 0 HQ2.out _ r1 (by omega) hc1).mono ?_; rintro e wM ⟨B5, c5, rfl, r5, hb'⟩; have HB := HB.trans (hb'.mono HB.size); have hA := hA.below hb'; have r1 := r1.below hb'; have r3 := r3.below hb'; have r4 := r4.below hb'; clear hb' tok5; have tok6 := True.intro)
      | (have _t := tok6; go_at_call 12; refine (alive_calls _).mono ?_; rintro e wM ⟨rfl, hb'⟩; have HB := HB.trans (hb'.mono HB.size); have hA := hA.below hb'; have r1 := r1.below hb'; have r3 := r3.below hb'; have r4 := r4.below hb'; have r5 := r5.below hb'; have hcv := HC2.out _ _ c1 r1; clear hb' tok6; have tok7 := True.intro)
      | (have _t := tok7; go_at_call 35; refine (Same6_m B3 B4 c3 c4 n1 n1 l1 l1 HN1.out HN1.out true (sameFB_refl _) _ r3 r4 (by omega) (by omega)).mono ?_; rintro e wM ⟨rfl, hb'⟩; have HB := HB.trans (hb'.mono HB.size); have hA := hA.below hb'; have r5 := r5.below hb'; clear hb' tok7 hcv; have tok8 := True.intro)
      | (have _t := tok8; go_at_call 35; refine (Same6_m B5 A c5 c n2 n2 l2 l2 HM.out HM.out true (sameFB_refl _) _ r5 hA hl hl).mono ?_; rintro e wM ⟨rfl, hb'⟩; have HB := HB.trans (hb'.mono HB.size); clear hb' tok8)
      | (go_at_call 12; refine (alive_calls _).mono ?_; rintro e wM ⟨rfl, hb'⟩; have HB := HB.trans (hb'.mono HB.size); clear hb'))
    all_goals go_ret
    all_goals exact ⟨rfl, HB⟩
  · go_enter Try.func10, Try.ntmps10
    go_wp2_with (first
      | (go_at_call 11; refine hfew.mono ?_; rintro e w1 ⟨rf, rfl, hr40, hb'⟩; have HB := HB.trans (hb'.mono HB.size); have hA := hA.below hb'; have hb := hb.below hb'; clear hb' hr40)
      | (have _t := tok1; go_at_call 31; refine (Encode_m A c m fs HM.out x HX.out n HN.out q HQ.out _ hA hl).mono ?_; rintro e wM ⟨B1, c1, rfl, hc1, r1, hb'⟩; have HB := HB.trans (hb'.mono HB.size); have hA := hA.below hb'; have hb := hb.below hb'; clear hb' tok1; have tok2 := True.intro)
      | (have _t := tok2; go_at_call 32; refine (rFEncode_is A c m fs HM.out _ hA hl hs xs q HXS2.out HQ.out).mono ?_; rintro e wM ⟨rfl, hb'⟩; have HB := HB.trans (hb'.mono HB.size); have hA := hA.below hb'; have hb := hb.below hb'; have r1 := r1.below hb'; clear hb' tok2; have tok3 := True.intro)
      | (have _t := tok3; go_at_call 33; refine (Decode6_m Ab nb cb b HNB.out l1 HL1.out n1 HN1.out q1 HQ1.out _ hb (by omega) hcb).mono ?_; rintro e wM ⟨B3, c3, rfl, r3, hb'⟩; have HB := HB.trans (hb'.mono HB.size); have hA := hA.below hb'; have hb := hb.below hb'; have r1 := r1.below hb'; have hcv := HC1.out _ hb; clear hb' tok3; have tok4 := True.intro)
      | (have _t := tok4; go_at_call 34; refine (rDecode6_m bs b HSL.out l1 HL1.out n1 HN1.out q1 HQ1.out _ (by rw [HSZ.out]; omega)).mono ?_; rintro e wM ⟨B4, c4, rfl, r4, hb'⟩; have HB := HB.trans (hb'.mono HB.size); have r1 := r1.below hb'; have r3 := r3.below hb'; clear hb' tok4 hcv; have tok5 := True.intro)
      | (have _t := tok5; go_at_call 33; refine (Decode6_m B1 n c1 x HN.out l2 HL2.out n2 HN2.out q2 HQ2.out _ r1 (by omega) hc1).mono ?_; rintro e wM ⟨B5, c5, rfl, r5, hb'⟩; have HB := HB.trans (hb'.mono HB.size); have r1 := r1.below hb'; have r3 := r3.below hb'; have r4 := r4.below hb'; clear hb' tok5; have tok6 := True.intro)
      | (have _t := tok6; go_at_call 12; refine (alive_calls _).mono ?_; rintro e wM ⟨rfl, hb'⟩; have HB := HB.trans (hb'.mono HB.size); have r1 := r1.below hb'; have r3 := r3.below hb'; have r4 := r4.below hb'; have hcv := HC2.out _ _ c1 r1; clear hb' tok6; have tok7 := True.intro)
      | (have _t := tok7; go_at_call 35; refine (Same6_m B3 B4 c3 c4 n1 n1 l1 l1 HN1.out HN1.out true (sameFB_refl _) _ r3 r4 (by omega) (by omega)).mono ?_; rintro e wM ⟨rfl, hb'⟩; have HB := HB.trans (hb'.mono HB.size); clear hb' tok7 hcv)
      | (go_at_call 12; refine (alive_calls _).mono ?_; rintro e wM ⟨rfl, hb'⟩; have HB := HB.trans (hb'.mono HB.size); clear hb'))
    all_goals go_ret
    all_goals exact ⟨rfl, HB⟩
end Go.Proofs.Ytepfabijmhhhcaa
