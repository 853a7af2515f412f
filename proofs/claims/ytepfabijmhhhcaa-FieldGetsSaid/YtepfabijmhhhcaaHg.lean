/- FieldGets, walked: it tells true. -/
import Derived.Test.YtepfabijmhhhcaaHa
set_option linter.unusedSimpArgs false
set_option linter.unusedVariables false
namespace Go.Proofs.Ytepfabijmhhhcaa
open Go.RowKit

theorem infoStr : (Try.prog.info? 9).map (fun i => (i.zero, i.size, i.bytes)) = some (some (.string ⟨#[]⟩), 1, 16) := by kernel_rfl
def strsV (l : List ByteArray) : List Value := l.map Value.string
def nmsL (fs : List Fd) (k : Nat) : List ByteArray := ⟨#[63]⟩ :: (fs.take k).map Fd.s
theorem nmsL_succ {fs : List Fd} {k : Nat} {f : Fd} (hf : fs[k]? = some f) : nmsL fs (k + 1) = nmsL fs k ++ [f.s] := by
  simp [nmsL, List.take_add_one, hf]
theorem nmsL_length {fs : List Fd} {k : Nat} (hk : k ≤ fs.length) : (nmsL fs k).length = k + 1 := by simp [nmsL]; omega
theorem Rd.str {w : World} {A : Option Addr} {l : List ByteArray} (h : Rd w A (strsV l)) {k : Nat} {s : ByteArray} (hk : l[k]? = some s) : ∃ ad, A = some ad ∧ w.cell? (ad.add k) = some (.string s) := by
  have : (strsV l)[k]? = some (.string s) := by simp [strsV, hk]
  exact h.at this
set_option maxRecDepth 100000 in
set_option maxHeartbeats 8000000 in
theorem FieldGets_calls (Ab : Option Addr) (cb : Nat) (b : List UInt8) (A : Option Addr) (c : Nat) (fs : List Fd) (vk vb : Int) (vt : ByteArray) (w : World) (hcb : b.length ≤ cb) (hcm : cb ≤ maxLen) (hb : Rd w Ab (bytesV b)) (hA : Rd w A (cellsF fs)) (hl : fs.length ≤ 9223372036854775807) (hs : ∀ f ∈ fs, f.s.size ≤ 9223372036854775807)
    (k0 : -9223372036854775808 ≤ vk) (k1 : vk ≤ 9223372036854775807) (b0 : 0 ≤ vb) (b1 : vb < 18446744073709551616) (hvt : vt.size ≤ maxLen) :
    Calls Try.prog 4 #[.slice Ab b.length cb, .slice A fs.length c, .agg #[.int .i64 vk, .int .u64 vb, .string vt]] w fun e w' => e = .returned (.bool true) ∧ Below w.heap.size w w' := by
  obtain ⟨i0, hi, hz0, hz1, hz2⟩ := info_parts infoStr
  have hA1 := hA.below (below_new (.cells #[.int .i64 vk, .int .u64 vb, .string vt] 37))
  have hb1 := hb.below (below_new (.cells #[.int .i64 vk, .int .u64 vb, .string vt] 37))
  have V := VBox.new w vk vb vt
  obtain ⟨V0, V1, V2⟩ := id V
  have HB := below_new (w := w) (.cells #[.int .i64 vk, .int .u64 vb, .string vt] 37)
  have hfew := few_calls A c fs _ hA1 hl
  obtain ⟨bs, hbs⟩ : ∃ y, strL b = y := ⟨_, rfl⟩
  obtain ⟨nb, hnb⟩ : ∃ y, b.length = y := ⟨_, rfl⟩
  obtain ⟨m, hm⟩ : ∃ y, fs.length = y := ⟨_, rfl⟩
  have hbsl : bl bs = b := by rw [← hbs, bl_strL]
  rw [hm] at hl hfew ⊢
  rw [hnb] at hcb ⊢
  have HBS := Lib.hid hbs
  have HNB := Lib.hid hnb
  have HM := Lib.hid hm
  have HSL := Lib.hid hbsl
  have hcv1 : ∀ W : World, Rd W Ab (bytesV b) → (convert 30 9 (.slice Ab nb cb)).run Try.prog W = .ok (.string bs) W := fun W h => by
    have := conv_at h nb cb HNB.out
    rwa [HBS.out] at this
  have HC1 := Lib.hid hcv1
  clear hbs hnb hm hbsl hcv1 hA hb
  have hA := hA1
  have hb := hb1
  clear hA1 hb1
  go_enter Try.func4, Try.ntmps4
  go_wp2_with (first
    | (go_at_call 11; refine hfew.mono ?_; rintro e w1 ⟨rf, rfl, hr40, hb'⟩; have HB := HB.trans (hb'.mono HB.size); have hA := hA.below hb'; have hb := hb.below hb'; have V := V.below hb'; obtain ⟨V0, V1, V2⟩ := id V; clear hb')
    | (go_at_call 12; refine (alive_calls _).mono ?_; rintro e wM ⟨rfl, hb'⟩; have HB := HB.trans (hb'.mono HB.size); clear hb'))
  all_goals first
    | (go_ret; exact ⟨rfl, HB⟩)
    | skip
  have hm40 : m ≤ 40 := by have := hr40 (by assumption); have := HM.out; omega
  have hown0 : (w1.alloc (.cells #[.string ⟨#[63]⟩] 9)).ownsRow w1.heap.size 9 1 (.slice (some ⟨w1.heap.size, 0, none⟩) 1 1) (nmsL fs 0).length (strsV (nmsL fs 0)) :=
    ⟨rfl, .inr ⟨_, 1, #[.string ⟨#[63]⟩], rfl, Nat.le_refl _, World.alloc_heap_new _ _, Nat.le_refl _, by decide, rfl, rfl⟩⟩
  have HW0 : Below w1.heap.size w1 (w1.alloc (.cells #[.string ⟨#[63]⟩] 9)) := below_new _
  clear V0 V1 V2
  go_loopw [7, 9, 38] (fun v _ i wr => ∃ k : Nat, k ≤ m ∧ i = .int .i64 k ∧ wr.ownsRow w1.heap.size 9 1 v (k + 1) (strsV (nmsL fs k)) ∧ Below w1.heap.size w1 wr) (fun _ _ i _ => m - (intOf i).toNat)
  case atStart => exact ⟨0, by omega, rfl, hown0, HW0⟩
  case round =>
    obtain ⟨k, hk, rfl, hown, HW⟩ := hrel
    clear hown0 HW0
    have hAr := hA.below HW
    by_cases hlt : k < m
    · obtain ⟨f, hf⟩ : ∃ f, fs[k]? = some f := ⟨_, List.getElem?_eq_getElem (by rw [HM.out]; exact hlt)⟩
      obtain ⟨ad, rfl, c0, c1, c2⟩ := hAr.fld hf
      have HN := Lib.hid (nmsL_succ hf)
      obtain ⟨F0, F1, F2⟩ := FBox.new wr f.s f.k f.l
      have hownW := hown.alloc (.cells #[.string f.s, .int .i64 f.k, .int .i64 f.l] 40)
      have HW := HW.alloc HW.size (.cells #[.string f.s, .int .i64 f.k, .int .i64 f.l] 40)
      have hn1 : ∀ j u, [Value.string f.s][j]? = some u → ((wr.alloc (.cells #[.string f.s, .int .i64 f.k, .int .i64 f.l] 40)).alloc (.cells #[.string f.s] 9)).cell? ((⟨wr.heap.size + 1, 0, none⟩ : Addr).add j) = some u := by
        intro j u hj
        have h := news1 (wr.alloc (.cells #[.string f.s, .int .i64 f.k, .int .i64 f.l] 40)) (.string f.s) 9 j u hj
        rwa [World.size_alloc] at h
      clear hf hAr hown
      go_wp2_with (at_builtin; refine wpList_append_own _ rfl _ _ 38 rfl w1.heap.size 9 i0 (.string ⟨#[]⟩) 1 16 Try.underlying38 hi hz0 hz1 hz2 rfl (by decide) _ _ _ rfl (hownW.alloc _) ⟨wr.heap.size + 1, 0, none⟩ 1 1 [.string f.s] rfl rfl hn1 ?c2 ?c3 ?c4 ?c5 ?_)
      case c2 => intro u hu; simp at hu; subst hu; rfl
      case c3 => simp only [maxLen]; omega
      case c4 => omega
      case c5 => have := HW.size; simp at this; simp; omega
      intro v' w3 hown' hgrow _
      have hs2 := HW.size
      have HW3 := Below.grown (HW.alloc hs2 (.cells #[.string f.s] 9)) hgrow (by simp at hs2; simp; omega) (fun q hq => own_base hownW q hq)
      have hown3 : w3.ownsRow w1.heap.size 9 1 v' (k + 1 + 1) (strsV (nmsL fs (k + 1))) := own_eq hown' rfl (by rw [HN.out]; simp [strsV])
      clear hown' hgrow hownW hn1 F0 F1 F2 c0 c1 c2
      go_wp2
      go_roundw
      case rel => exact ⟨k + 1, by omega, by go_num, hown3, HW3⟩
      case measure => simp [intOf]; omega
    · obtain rfl : k = m := by omega
      obtain ⟨B, cn, rfl, _, _, rn⟩ := own_rd hown
      have hA := hAr
      have hb := hb.below HW
      have V := V.below HW
      have HB := HB.trans (HW.mono HB.size)
      have HNL : Hid ((nmsL fs k).length = k + 1) := Lib.hid (nmsL_length (by have := HM.out; omega))
      clear hAr hown HW
      go_wp2
      obtain ⟨wo, rfl⟩ : ∃ x : World, x = wr := ⟨_, rfl⟩
      have HB0 := HB
      have hA0 := hA
      have hb0 := hb
      have V0' := V
      have rn0 := rn
      clear HB hA hb V rn
      go_loopw [11, 12, 13, 14, 15, 16, 17, 18, 19, 50] (fun _ _ _ _ _ _ _ _ _ i wr => ∃ j : Nat, j ≤ k + 1 ∧ i = .int .i64 j ∧ Below w.heap.size w wr ∧ Rd wr A (cellsF fs) ∧ Rd wr Ab (bytesV b) ∧ VBox wr w.heap.size vk vb vt ∧ Rd wr B (strsV (nmsL fs k))) (fun _ _ _ _ _ _ _ _ _ i _ => k + 1 - (intOf i).toNat)
      case atStart => exact ⟨0, by omega, rfl, HB0, hA0, hb0, V0', rn0⟩
      case round =>
        obtain ⟨j, hj, rfl, HB, hA, hb, V, rn⟩ := hrel
        clear HB0 hA0 hb0 V0' rn0
        by_cases hjl : j < k + 1
        · obtain ⟨nm, hnm⟩ : ∃ f, (nmsL fs k)[j]? = some f := ⟨_, List.getElem?_eq_getElem (by rw [HNL.out]; exact hjl)⟩
          obtain ⟨nd, rfl, n0⟩ := rn.str hnm
          obtain ⟨⟨gk, gb, gt⟩, hg⟩ : ∃ x, getV b fs nm = x := ⟨_, rfl⟩
          obtain ⟨ge, hge⟩ : ∃ x, getE b fs nm = x := ⟨_, rfl⟩
          obtain ⟨x, hx⟩ : ∃ y, setB b fs nm ⟨vk, vb, vt⟩ = y := ⟨_, rfl⟩
          obtain ⟨n, hn⟩ : ∃ y, x.length = y := ⟨_, rfl⟩
          obtain ⟨se, hse⟩ : ∃ y, setE b fs nm ⟨vk, vb, vt⟩ = y := ⟨_, rfl⟩
          obtain ⟨xs, hxs⟩ : ∃ y, strL x = y := ⟨_, rfl⟩
          have HXS2 : Hid (strL (setB b fs nm ⟨vk, vb, vt⟩) = xs) := Lib.hid (by rw [hx]; exact hxs)
          have hcv2 : ∀ (W : World) (B : Option Addr) (c' : Nat), Rd W B (bytesV x) → (convert 30 9 (.slice B n c')).run Try.prog W = .ok (.string xs) W := fun W B c' h => by
            have := conv_at h n c' hn
            rwa [hxs] at this
          have HC2 := Lib.hid hcv2
          have HG := Lib.hid hg
          have HGE := Lib.hid hge
          have HX := Lib.hid hx
          have HN := Lib.hid hn
          have HSE := Lib.hid hse
          have hxx : (xs.toList == xs.toList) = true := by simp
          have hk1 : (j : Int) < (k : Int) + 1 := by omega
          have tok1 := True.intro
          clear hnm hg hge hx hn hse hxs hcv2
          go_wp2_with (first
            | (have _t := tok1; go_at_call 25; refine (Get_m Ab nb cb b HNB.out A c k fs HM.out nm ⟨gk, gb, gt⟩ HG.out ge HGE.out _ hA hl hb hcb).mono ?_; rintro e wM ⟨rfl, hb'⟩; have HB := HB.trans (hb'.mono HB.size); have hA := hA.below hb'; have hb := hb.below hb'; have V := V.below hb'; have rn := rn.below hb'; have G := VBox.new wM gk gb gt; have hb2 := below_new (w := wM) (.cells #[.int .i64 gk, .int .u64 gb, .string gt] 37); have HB := HB.trans (hb2.mono HB.size); have hA := hA.below hb2; have hb := hb.below hb2; have V := V.below hb2; have rn := rn.below hb2; have hcv := HC1.out _ hb; clear hb' hb2 tok1 n0; have tok2 := True.intro)
            | (have _t := tok2; go_at_call 26; refine (rGet_m bs b HSL.out A c k fs HM.out nm ⟨gk, gb, gt⟩ HG.out ge HGE.out _ hA hl hs).mono ?_; rintro e wN ⟨rfl, hb'⟩; have HB := HB.trans (hb'.mono HB.size); have hA := hA.below hb'; have hb := hb.below hb'; have V := V.below hb'; have rn := rn.below hb'; have G := G.below hb'; have G2 := VBox.new wN gk gb gt; have hb2 := below_new (w := wN) (.cells #[.int .i64 gk, .int .u64 gb, .string gt] 37); have HB := HB.trans (hb2.mono HB.size); have hA := hA.below hb2; have hb := hb.below hb2; have V := V.below hb2; have rn := rn.below hb2; have G := G.below hb2; clear hcv; obtain ⟨V0, V1, V2⟩ := id V; clear hb' hb2 tok2; have tok3 := True.intro)
            | (have _t := tok3; go_at_call 27; refine (Set_m Ab nb cb b HNB.out A c k fs HM.out nm vk vb vt b0 b1 x HX.out n HN.out se HSE.out _ hA hl hb).mono ?_; rintro e wO ⟨B3, c3, rfl, hc3, r3, hb'⟩; have HB := HB.trans (hb'.mono HB.size); have hA := hA.below hb'; have hb := hb.below hb'; have V := V.below hb'; have rn := rn.below hb'; have G := G.below hb'; have G2 := G2.below hb'; have hcv := HC1.out _ hb; clear V0 V1 V2; obtain ⟨V0, V1, V2⟩ := id V; clear hb' tok3; have tok4 := True.intro)
            | (have _t := tok4; go_at_call 28; refine (rSet_m bs b HSL.out A c k fs HM.out nm vk vb vt b0 b1 xs HXS2.out se HSE.out _ hA hl hs).mono ?_; rintro e wP ⟨rfl, hb'⟩; have HB := HB.trans (hb'.mono HB.size); have hA := hA.below hb'; have hb := hb.below hb'; have V := V.below hb'; have rn := rn.below hb'; have G := G.below hb'; have G2 := G2.below hb'; have r3 := r3.below hb'; clear hcv V0 V1 V2; have hcv := HC2.out _ _ c3 r3; obtain ⟨G0, G1, G3⟩ := id G; obtain ⟨G20, G21, G22⟩ := id G2; clear hb' tok4))
          go_roundw
          case rel => exact ⟨j + 1, by omega, by go_num, HB, hA, hb, V, rn⟩
          case measure => simp [intOf]; omega
        · obtain rfl : j = k + 1 := by omega
          clear hA hb V rn
          go_wp2_with (go_at_call 12; refine (alive_calls _).mono ?_; rintro e wM ⟨rfl, hb'⟩; have HB := HB.trans (hb'.mono HB.size); clear hb')
          go_ret
          exact ⟨rfl, HB⟩
end Go.Proofs.Ytepfabijmhhhcaa
