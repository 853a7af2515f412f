/- FieldSets, walked: it tells true. -/
import Derived.Test.YtepfabijmhhhcaaHc
import Derived.Deep.RegionWith
import Derived.Deep.DeepCutAuto
set_option linter.unusedSimpArgs false
set_option linter.unusedVariables false
namespace Go.Proofs.Ytepfabijmhhhcaa
open Go.RowKit

set_option maxRecDepth 100000 in
set_option maxHeartbeats 4000000 in
theorem FieldSets_no (A : Option Addr) (c : Nat) (fs : List Fd) (Av : Option Addr) (cv : Nat) (vs : List Vl) (hb : rightF fs = false ∨ (rightF fs = true ∧ 40 < vs.length)) (w : World) (hA : Rd w A (cellsF fs)) (hl : fs.length ≤ 9223372036854775807) :
    Calls Try.prog 6 #[.slice A fs.length c, .slice Av vs.length cv] w fun e w' => e = .returned (.bool true) ∧ Below w.heap.size w w' := by
  have hfew := few_calls A c fs w hA hl
  have HB := Below.refl w.heap.size w
  obtain ⟨m, hm⟩ : ∃ m, fs.length = m := ⟨_, rfl⟩
  obtain ⟨q, hq⟩ : ∃ q, vs.length = q := ⟨_, rfl⟩
  rw [hm] at hl hfew ⊢
  rw [hq] at hb ⊢
  have HM := Lib.hid hm
  clear hm hq
  rcases hb with hr | ⟨hr, h40⟩
  · have HR := Lib.hid hr
    clear hr
    go_enter Try.func6, Try.ntmps6
    go_wp2_with (first
      | (go_at_call 11; refine hfew.mono ?_; rintro e w1 ⟨rf, rfl, hr40, hb⟩; have HB := HB.trans (hb.mono HB.size); have hA := hA.below hb; clear hb hr40)
      | (go_at_call 12; refine (alive_calls _).mono ?_; rintro e wM ⟨rfl, hb⟩; have HB := HB.trans (hb.mono HB.size); clear hb)
      | (go_at_call 15; refine (Right_m A c m fs HM.out false HR.out _ hA hl).mono ?_; rintro e wM ⟨rfl, hb⟩; have HB := HB.trans (hb.mono HB.size); have hA := hA.below hb; clear hb))
    all_goals go_ret
    all_goals exact ⟨rfl, HB⟩
  · have HR := Lib.hid hr
    have h41 : decide ((40 : Int) < (q : Int)) = true := by simp; omega
    clear hr h40
    go_enter Try.func6, Try.ntmps6
    go_wp2_with (first
      | (go_at_call 11; refine hfew.mono ?_; rintro e w1 ⟨rf, rfl, hr40, hb⟩; have HB := HB.trans (hb.mono HB.size); have hA := hA.below hb; clear hb hr40)
      | (go_at_call 12; refine (alive_calls _).mono ?_; rintro e wM ⟨rfl, hb⟩; have HB := HB.trans (hb.mono HB.size); clear hb)
      | (go_at_call 15; refine (Right_m A c m fs HM.out true HR.out _ hA hl).mono ?_; rintro e wM ⟨rfl, hb⟩; have HB := HB.trans (hb.mono HB.size); have hA := hA.below hb; clear hb))
    all_goals go_ret
    all_goals exact ⟨rfl, HB⟩
set_option maxRecDepth 100000 in
set_option maxHeartbeats 16000000 in
theorem FieldSets_yes (A : Option Addr) (c : Nat) (fs : List Fd) (hr : rightF fs = true) (Av : Option Addr) (cv : Nat) (vs : List Vl) (h40 : vs.length ≤ 40) (w : World) (hA : Rd w A (cellsF fs)) (hl : fs.length ≤ 9223372036854775807) (hV : Rd w Av (cellsVl vs)) (hvs : ∀ v ∈ vs, 0 ≤ v.b ∧ v.b < 18446744073709551616 ∧ v.t.size ≤ maxLen) :
    Calls Try.prog 6 #[.slice A fs.length c, .slice Av vs.length cv] w fun e w' => e = .returned (.bool true) ∧ Below w.heap.size w w' := by
  obtain ⟨hmf, h16⟩ := rightF_may hr
  obtain ⟨z, hz⟩ : ∃ x, sizeF fs = x := ⟨_, rfl⟩
  have hfew := few_calls A c fs w hA hl
  have HB := Below.refl w.heap.size w
  have HNW := Lib.hid (invS_new hr hz)
  have HVS := Lib.hid hvs
  have HMF := Lib.hid hmf
  have HR := Lib.hid hr
  have HZ := Lib.hid hz
  clear hr hz hvs hmf
  obtain ⟨m, hm⟩ : ∃ m, fs.length = m := ⟨_, rfl⟩
  obtain ⟨q, hq⟩ : ∃ q, vs.length = q := ⟨_, rfl⟩
  rw [hm] at hl hfew h16 ⊢
  rw [hq] at h40 ⊢
  have HM := Lib.hid hm
  have HQ := Lib.hid hq
  have hmk := make_vals m (by omega)
  have h41 : decide ((40 : Int) < (q : Int)) = false := by simp; omega
  clear hm hq
  go_enter Try.func6, Try.ntmps6
  go_wp2_with (first
    | (go_at_call 11; refine hfew.mono ?_; rintro e w1 ⟨rf, rfl, hr40, hb⟩; have HB := HB.trans (hb.mono HB.size); have hA := hA.below hb; have hV := hV.below hb; clear hb hr40)
    | (go_at_call 12; refine (alive_calls _).mono ?_; rintro e wM ⟨rfl, hb⟩; have HB := HB.trans (hb.mono HB.size); clear hb)
    | (go_at_call 15; refine (Right_m A c m fs HM.out true HR.out _ hA hl).mono ?_; rintro e wM ⟨rfl, hb⟩; have HB := HB.trans (hb.mono HB.size); have hA := hA.below hb; have hV := hV.below hb; clear hb)
    | (go_at_call 20; refine (New_m A c m fs HM.out z HZ.out _ hA hl).mono ?_; rintro e wM ⟨B1, c1, rfl, hc1, r1, hb⟩; have HB := HB.trans (hb.mono HB.size); have hA := hA.below hb; have hV := hV.below hb; clear hb))
  all_goals first
    | (go_ret; exact ⟨rfl, HB⟩)
    | skip
  rename World => W1
  clear h41 hmk hfew
  obtain ⟨bd, hbd⟩ : ∃ bd : Addr, (⟨W1.heap.size, 0, none⟩ : Addr) = bd := ⟨_, rfl⟩
  have V0 : VRow (W1.alloc (.cells (cellsVl (List.replicate m Vl.z)).toArray 37)) bd (zvL fs 0) := by
    rw [← hbd, zvL_none, HM.out]; exact ⟨rfl, OBox.new _ _ _⟩
  have HW0 : Below W1.heap.size W1 (W1.alloc (.cells (cellsVl (List.replicate m Vl.z)).toArray 37)) := below_new _
  have hbk : W1.heap.size ≤ bd.block := by rw [← hbd]; exact Nat.le_refl _
  rw [hbd]
  clear hbd
  go_loopw [7, 8, 39] (fun _ _ i wr => ∃ k : Nat, k ≤ m ∧ i = .int .i64 k ∧ VRow wr bd (zvL fs k) ∧ Below W1.heap.size W1 wr) (fun _ _ i _ => m - (intOf i).toNat)
  case atStart => exact ⟨0, by omega, rfl, V0, HW0⟩
  case round =>
    obtain ⟨k, hk, rfl, VR, HW⟩ := hrel
    clear V0 HW0
    by_cases hlt : k < m
    · obtain ⟨f, hf⟩ : ∃ f, fs[k]? = some f := ⟨_, List.getElem?_eq_getElem (by rw [HM.out]; exact hlt)⟩
      have HMAY := Lib.hid (HMF.out f (List.mem_of_getElem? hf))
      obtain ⟨t, ht⟩ : ∃ t, zeroL f.k f.l = t := ⟨_, rfl⟩
      have hAr := hA.below HW
      obtain ⟨ad, rfl, c0, c1', c2⟩ := hAr.fld hf
      have HS := Lib.hid (zvL_succ hf)
      have HG := Lib.hid (zvL_get fs (k := k) (by rw [HM.out]; exact hlt))
      have HL := Lib.hid (zvL_length fs (k := k) (by rw [HM.out]; exact hk))
      have HT := Lib.hid ht
      obtain ⟨F0, F1, F2⟩ := FBox.new wr f.s f.k f.l
      have HW := HW.alloc HW.size (.cells #[.string f.s, .int .i64 f.k, .int .i64 f.l] 40)
      have VR := VR.below (below_new (.cells #[.string f.s, .int .i64 f.k, .int .i64 f.l] 40))
      clear hf ht hAr
      go_wp2_with (go_at_call 30; refine (rZero_is _ _ _ HMAY.out t HT.out _).mono ?_; rintro e wZ ⟨rfl, hb⟩; have HW := HW.trans (hb.mono HW.size); have VR := VR.below hb; obtain ⟨⟨v0, v1, v2⟩, z0, z1, z2⟩ := VR.at HG.out; obtain ⟨⟨y1, y2⟩, x1, x2⟩ := VR.at2 HG.out; obtain ⟨y3, x3⟩ := VR.at3 HG.out (.int .i64 f.k) (.int .u64 0); obtain ⟨y4, x4⟩ := VR.at1 HG.out (.int .i64 f.k); clear hb F0 F1 F2 c0 c1' c2)
      have VS := VR.set (i := k) (by rw [HL.out, HM.out]; exact hlt) f.zv
      rw [HS.out, Fd.zv, HT.out] at VS
      have hpb : W1.heap.size ≤ (bd.add (k * 3)).block := by rw [add_at VR.1]; exact hbk
      have HWS := put3_below (v := ⟨f.k, 0, t⟩) HW hpb
      go_roundw
      case rel => exact ⟨k + 1, by omega, by go_num, VS, HWS⟩
      case measure => simp [intOf]; omega
    · obtain rfl : k = m := by omega
      have e0 : zvL fs k = fs.map Fd.zv := by rw [← HM.out]; exact zvL_all fs
      rw [e0] at VR
      clear e0
      have r1 := r1.below HW
      go_wp2
      obtain ⟨w0, rfl⟩ : ∃ x : World, x = wr := ⟨_, rfl⟩
      have VR0 := VR
      have HW0 := HW
      have r10 := r1
      clear VR HW r1
      go_loopw [5, 9, 10, 11, 12, 13, 14, 15, 16, 17, 52] (fun b5 _ _ _ _ _ _ _ _ _ i wr => ∃ (j : Nat) (b : List UInt8) (was : List Vl) (B : Option Addr) (cb : Nat), j ≤ q ∧ i = .int .i64 j ∧ b5 = .slice B z cb ∧ z ≤ cb ∧ Rd wr B (bytesV b) ∧ VRow wr bd was ∧ Hid (InvS fs b was) ∧ Below W1.heap.size W1 wr) (fun _ _ _ _ _ _ _ _ _ _ i _ => q - (intOf i).toNat)
      case atStart => exact ⟨0, _, _, B1, c1, by omega, rfl, rfl, hc1, r10, VR0, HNW, HW0⟩
      case round =>
        obtain ⟨j, b, was, B, cb, hj, rfl, rfl, hcb, rb, VR, HI, HW⟩ := hrel
        clear VR0 HW0 r10
        by_cases hjq : j < q
        · obtain ⟨⟨vk, vb, vt⟩, hv⟩ : ∃ v, vs[j]? = some v := ⟨_, List.getElem?_eq_getElem (by rw [HQ.out]; exact hjq)⟩
          obtain ⟨g0, g1, g2⟩ := HVS.out _ (List.mem_of_getElem? hv)
          have hvt : vt.size ≤ 9223372036854775807 := g2
          have hAr := hA.below HW
          have hVr := hV.below HW
          obtain ⟨vd, rfl, c0, c1', c2⟩ := hVr.vl hv
          have hb2 := below_new (w := wr) (.cells #[.int .i64 vk, .int .u64 vb, .string vt] 37)
          have V := VBox.new wr vk vb vt
          have hAr := hAr.below hb2
          have rb := rb.below hb2
          have VR := VR.below hb2
          have HW := HW.trans (hb2.mono HW.size)
          obtain ⟨V0, V1, V2⟩ := id V
          clear hv hVr hb2 g2
          by_cases hk0 : k = 0
          · have hkz : ((k : Int) == 0) = true := by simp; exact hk0
            have HB := HB.trans (HW.mono HB.size)
            clear hk0 hA hAr rb VR hV HW
            go_wp2_with (go_at_call 12; refine (alive_calls _).mono ?_; rintro e wM ⟨rfl, hb⟩; have HB := HB.trans (hb.mono HB.size); clear hb)
            go_ret
            exact ⟨rfl, HB⟩
          have hkz : ((k : Int) == 0) = false := by simp; exact hk0
          by_cases ht : 1000 < vt.size
          · have ht1 : decide ((1000 : Int) < (vt.size : Int)) = true := by simp; omega
            have HB := HB.trans (HW.mono HB.size)
            clear hk0 hA hAr rb VR hV HW
            go_wp2_with (go_at_call 12; refine (alive_calls _).mono ?_; rintro e wM ⟨rfl, hb⟩; have HB := HB.trans (hb.mono HB.size); clear hb)
            go_ret
            exact ⟨rfl, HB⟩
          have ht1 : decide ((1000 : Int) < (vt.size : Int)) = false := by simp; omega
          obtain ⟨p, hp⟩ : ∃ p, j % k = p := ⟨_, rfl⟩
          have hpk : p < k := by rw [← hp]; exact Nat.mod_lt _ (by omega)
          have hmod : (j : Int) % (k : Int) = (p : Int) := by rw [← hp, Int.natCast_emod]
          obtain ⟨f, hf⟩ : ∃ f, fs[p]? = some f := ⟨_, List.getElem?_eq_getElem (by rw [HM.out]; exact hpk)⟩
          have hwl : p < was.length := by rw [HI.out.2.1, HM.out]; exact hpk
          obtain ⟨u, hu⟩ : ∃ u, was[p]? = some u := ⟨_, List.getElem?_eq_getElem hwl⟩
          obtain ⟨x, hx⟩ : ∃ y, setB b fs f.s ⟨vk, vb, vt⟩ = y := ⟨_, rfl⟩
          obtain ⟨n, hn⟩ : ∃ y, x.length = y := ⟨_, rfl⟩
          obtain ⟨se, hse⟩ : ∃ y, setE b fs f.s ⟨vk, vb, vt⟩ = y := ⟨_, rfl⟩
          have hset : se = 0 → n = z ∧ InvS fs x (was.set p ⟨vk, vb, vt⟩) := fun h0 => by
            have := invS_set HR.out HI.out hf ⟨vk, vb, vt⟩ g0 g1 (by rw [hse]; exact h0)
            rw [hx] at this
            exact ⟨by rw [← hn, this.1, HZ.out], this⟩
          have hnb : b.length = z := by rw [HI.out.1, HZ.out]
          obtain ⟨ad, e, d0, d1, d2⟩ := hAr.fld hf
          cases e
          have HX := Lib.hid hx
          have HN := Lib.hid hn
          have HSE := Lib.hid hse
          have HSET := Lib.hid hset
          have HU := Lib.hid hu
          have HNB := Lib.hid hnb
          have HWL := Lib.hid hwl
          have hp0 : (0 : Int) ≤ (p : Int) := by omega
          have hp1 : (p : Int) < (k : Int) := by omega
          clear hp hf hwl hu hx hn hse hset hnb ht hk0
          go_upto_region 16 with fail
          obtain ⟨WV, hWV⟩ : ∃ W, wr.alloc (.cells #[.int .i64 vk, .int .u64 vb, .string vt] 37) = W := ⟨_, rfl⟩
          rw [hWV] at V V0 V1 V2 hAr rb VR HW d0 d1 d2 ⊢
          clear hWV c0 c1' c2
          have hAd : Rd WV.drew (some ad) (cellsF fs) := hAr
          have rbd : Rd WV.drew B (bytesV b) := rb
          have VRd : VRow WV.drew bd was := VR
          have Vd : VBox WV.drew wr.heap.size vk vb vt := V
          have HWd : Below W1.heap.size W1 WV.drew := HW.drew
          clear V hAr rb VR HW
          (try rw [hmod])
          clear hmod
          go_cut [12, 13] (fun x12 e13 wx => ∃ (B' : Option Addr) (c' : Nat), x12 = .slice B' n c' ∧ e13 = .int .i64 se ∧ n ≤ c' ∧ Rd wx B' (bytesV x) ∧ Below WV.drew.heap.size WV.drew wx)
          case first =>
            go_region_with (go_at_call 27; refine (Set_m B z cb b HNB.out (some ad) c k fs HM.out f.s vk vb vt g0 g1 x HX.out n HN.out se HSE.out _ hAd hl rbd).mono ?_; rintro e wO ⟨B3, c3, rfl, hc3, r3, hb'⟩)
            all_goals (go_wp2_with fail; go_meet; exact ⟨B3, c3, rfl, rfl, hc3, r3, hb'⟩)
          case rest =>
            obtain ⟨B3, c3, rfl, rfl, hc3, r3, hbx⟩ := hcut
            have rb := rbd.below hbx
            have VR := VRd.below hbx
            have HW := HWd.trans (hbx.mono HWd.size)
            clear V0 V1 V2 d0 d1 d2
            obtain ⟨V0, V1, V2⟩ := Vd.below hbx
            obtain ⟨⟨v0, v1, v2⟩, z0, z1, z2⟩ := VR.at HU.out
            obtain ⟨⟨y1, y2⟩, x1, x2⟩ := VR.at2 HU.out
            obtain ⟨y3, x3⟩ := VR.at3 HU.out (.int .i64 vk) (.int .u64 vb)
            obtain ⟨y4, x4⟩ := VR.at1 HU.out (.int .i64 vk)
            clear hAd rbd VRd Vd HWd hbx
            go_upto_if 84 with fail
            go_cut [5] (fun b5 wx => ∃ (b2 : List UInt8) (was2 : List Vl) (B2 : Option Addr) (c2 : Nat), b5 = .slice B2 z c2 ∧ z ≤ c2 ∧ Rd wx B2 (bytesV b2) ∧ VRow wx bd was2 ∧ Hid (InvS fs b2 was2) ∧ Below W1.heap.size W1 wx)
            case first =>
              by_cases h0 : se = 0
              · obtain ⟨hnz, hinv⟩ := HSET.out h0
                subst h0
                subst hnz
                have HI2 := Lib.hid hinv
                have VS := VR.set HWL.out ⟨vk, vb, vt⟩
                have hpb : W1.heap.size ≤ (bd.add (p * 3)).block := by rw [add_at VR.1]; exact hbk
                have HWS := put3_below (v := ⟨vk, vb, vt⟩) HW hpb
                have rs := put3_rd VR r3 p ⟨vk, vb, vt⟩
                clear hinv
                go_wp2_with fail
                go_region
                all_goals (go_wp2_with fail; go_meet; exact ⟨x, was.set p ⟨vk, vb, vt⟩, B3, c3, rfl, hc3, rs, VS, HI2, by first | exact HWS | exact HWS.drew⟩)
              · have hne : (se == 0) = false := by simpa using h0
                clear h0
                go_wp2_with fail
                go_meet
                exact ⟨b, was, B, cb, rfl, hcb, rb, VR, HI, HW⟩
            case rest =>
              clear rb VR HW V0 V1 V2 v0 v1 v2 z0 z1 z2 y1 y2 x1 x2 y3 x3 y4 x4 HI hcb
              obtain ⟨b2, was2, B2, c2', rfl, hz2, r2, VR, HI, HW⟩ := hcut
              have HNB2 : Hid (b2.length = z) := Lib.hid (by rw [HI.out.1, HZ.out])
              go_wp2
              have VR0 := VR
              have HW0 := HW
              have r20 := r2
              clear VR HW r2
              go_loopw [14, 15, 16, 17, 92] (fun _ _ _ _ i wr => ∃ l : Nat, l ≤ k ∧ i = .int .i64 l ∧ Rd wr B2 (bytesV b2) ∧ VRow wr bd was2 ∧ Below W1.heap.size W1 wr) (fun _ _ _ _ i _ => k - (intOf i).toNat)
              case atStart => exact ⟨0, by omega, rfl, r20, VR0, HW0⟩
              case round =>
                obtain ⟨l, hl2, rfl, r2, VR, HW⟩ := hrel
                clear VR0 HW0 r20
                by_cases hlk : l < k
                · obtain ⟨g, hg⟩ : ∃ f, fs[l]? = some f := ⟨_, List.getElem?_eq_getElem (by rw [HM.out]; exact hlk)⟩
                  obtain ⟨⟨uk, ub, ut⟩, hu⟩ : ∃ u, was2[l]? = some u := ⟨_, List.getElem?_eq_getElem (by rw [HI.out.2.1, HM.out]; exact hlk)⟩
                  obtain ⟨hgv, hge⟩ := HI.out.2.2 l g _ hg hu
                  have hAr := hA.below HW
                  obtain ⟨ad2, e, d0, d1, d2⟩ := hAr.fld hg
                  cases e
                  have HU := Lib.hid hu
                  have HGV := Lib.hid hgv
                  have HGE := Lib.hid hge
                  have hb2 := below_new (w := wr) (.cells #[.string g.s, .int .i64 g.k, .int .i64 g.l] 40)
                  obtain ⟨F0, F1, F2⟩ := FBox.new wr g.s g.k g.l
                  have hAr := hAr.below hb2
                  have r2 := r2.below hb2
                  have VR := VR.below hb2
                  have HW := HW.trans (hb2.mono HW.size)
                  have hi0 : (0 : Int) ≤ (l : Int) := by omega
                  have hi1 : (l : Int) < (k : Int) := by omega
                  clear hg hu hgv hge hb2
                  go_wp2_with (go_at_call 25; refine (Get_m B2 z c2' b2 HNB2.out (some ad) c k fs HM.out g.s ⟨uk, ub, ut⟩ HGV.out 0 HGE.out _ hAr hl r2 hz2).mono ?_; rintro e wM ⟨rfl, hb⟩; have HW := HW.trans (hb.mono HW.size); have r2 := r2.below hb; have VR := VR.below hb; clear hAr F0 F1 F2 d0 d1 d2 hb; have V := VBox.new wM uk ub ut; have hb2 := below_new (w := wM) (.cells #[.int .i64 uk, .int .u64 ub, .string ut] 37); have HW := HW.trans (hb2.mono HW.size); have r2 := r2.below hb2; have VR := VR.below hb2; clear hb2)
                  refine RW.start (fun w' => Below W1.heap.size W1 w' ∧ Rd w' B2 (bytesV b2) ∧ VRow w' bd was2 ∧ VBox w' wM.heap.size uk ub ut) (by kernel_rfl) (by kernel_rfl) ⟨HW.drew, r2, VR, V⟩ ?_
                  clear HW r2 VR V
                  repeat (first
                    | (refine' RW.val (by rfl) ?_ ?_; rotate_left; (focus (intro w' hS; obtain ⟨HW, r2, VR, V⟩ := hS; obtain ⟨V0, V1, V2⟩ := id V; obtain ⟨⟨v0, v1, v2⟩, z0, z1, z2⟩ := VR.at HU.out; go_simp; rfl)); simp only [Act.put, List.setIfInBounds_toArray, List.set_cons_zero, List.set_cons_succ])
                    | (refine RW.off (by rfl) ?_; simp only [Act.put, List.setIfInBounds_toArray, List.set_cons_zero, List.set_cons_succ]))
                  refine RW.done (fun w' hS => ?_)
                  obtain ⟨HW, r2, VR, V⟩ := hS; obtain ⟨V0, V1, V2⟩ := id V; obtain ⟨⟨v0, v1, v2⟩, z0, z1, z2⟩ := VR.at HU.out
                  go_wp2
                  go_roundw
                  case rel => exact ⟨l + 1, by omega, by go_num, r2, VR, HW⟩
                  case measure => simp [intOf]; omega
                · obtain rfl : l = k := by omega
                  go_wp2
                  go_roundw
                  case rel => exact ⟨j + 1, b2, was2, B2, c2', by omega, by go_num, rfl, hz2, r2, VR, HI, HW⟩
                  case measure => simp [intOf]; omega
        · obtain rfl : j = q := by omega
          have HB := HB.trans (HW.mono HB.size)
          clear hA hV
          go_wp2_with (go_at_call 12; refine (alive_calls _).mono ?_; rintro e wM ⟨rfl, hb⟩; have HB := HB.trans (hb.mono HB.size); clear hb)
          go_ret
          exact ⟨rfl, HB⟩
theorem FieldSets_calls (A : Option Addr) (c : Nat) (fs : List Fd) (Av : Option Addr) (cv : Nat) (vs : List Vl) (w : World) (hA : Rd w A (cellsF fs)) (hl : fs.length ≤ 9223372036854775807) (hs : ∀ f ∈ fs, f.s.size ≤ 9223372036854775807)
    (hV : Rd w Av (cellsVl vs)) (hvl : vs.length ≤ maxLen) (hvs : ∀ v ∈ vs, 0 ≤ v.b ∧ v.b < 18446744073709551616 ∧ v.t.size ≤ maxLen) :
    Calls Try.prog 6 #[.slice A fs.length c, .slice Av vs.length cv] w fun e w' => e = .returned (.bool true) ∧ Below w.heap.size w w' := by
  cases hr : rightF fs
  · exact FieldSets_no A c fs Av cv vs (.inl hr) w hA hl
  · by_cases h : vs.length ≤ 40
    · exact FieldSets_yes A c fs hr Av cv vs h w hA hl hV hvs
    · exact FieldSets_no A c fs Av cv vs (.inr ⟨hr, by omega⟩) w hA hl
end Go.Proofs.Ytepfabijmhhhcaa
