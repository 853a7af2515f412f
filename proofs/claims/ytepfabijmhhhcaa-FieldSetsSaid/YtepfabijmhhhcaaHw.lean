/- FieldNew, walked: it tells true. -/
import Derived.Test.YtepfabijmhhhcaaHa
import Derived.Test.YtepfabijmhhhcaaKx
set_option linter.unusedSimpArgs false
set_option linter.unusedVariables false
namespace Go.Proofs.Ytepfabijmhhhcaa
open Go.RowKit

theorem loc_name {fs : List Fd} (hr : rightF fs = true) {k : Nat} {f : Fd} (hf : fs[k]? = some f) {n : Nat} (hn : n = sizeF fs) : ∃ at_, (layL fs)[k]? = some at_ ∧ locF fs n f.s = .inr (at_, f) := by
  obtain ⟨_, _, hz⟩ := rightF_ok hr hf
  have hk := (List.getElem?_eq_some_iff.1 hf).1
  have hk2 : k < (layL fs).length := by rw [layL_length hr]; exact hk
  refine ⟨(layL fs)[k], List.getElem?_eq_getElem hk2, ?_⟩
  rw [locF, hr, decide_eq_true hn]
  simp only [Bool.and_true, if_true]
  rw [hz, if_neg (by omega)]
  simp only [Int.toNat_natCast, List.getD_eq_getElem?_getD, hf, List.getElem?_eq_getElem hk2, Option.getD_some]
theorem dec_zero {f : Fd} (h : mayB f.k f.l = true) : decF (List.replicate f.n 0) f = ⟨f.k, 0, zeroL f.k f.l⟩ ∧ decE (List.replicate f.n 0) f.k f.l = 0 := by
  obtain ⟨n, hn, _, _, hr, he⟩ := zero_right h
  have : n = f.n := by have := f.n_eq; omega
  subst this
  obtain ⟨_, h2, h3, h4⟩ := dec_enc (by omega) (by omega) hr
  rw [he] at h2 h3 h4
  refine ⟨?_, by simp [decE, h4]⟩
  rw [decF, if_pos h4, h2, h3]
theorem get_new {fs : List Fd} (hr : rightF fs = true) {k : Nat} {f : Fd} (hf : fs[k]? = some f) {z : Nat} (hz : sizeF fs = z) : getV (List.replicate z 0) fs f.s = ⟨f.k, 0, zeroL f.k f.l⟩ ∧ getE (List.replicate z 0) fs f.s = 0 := by
  obtain ⟨at_, _, hl⟩ := loc_name hr hf (n := z) hz.symm
  obtain ⟨hm, hin, _, _⟩ := loc_in hl
  have e : ((List.replicate z (0 : UInt8)).drop at_).take f.n = List.replicate f.n 0 := by
    rw [List.drop_replicate, List.take_replicate]; congr 1; omega
  have hl2 : locF fs (List.replicate z (0 : UInt8)).length f.s = .inr (at_, f) := by rw [List.length_replicate]; exact hl
  obtain ⟨h1, h2⟩ := dec_zero hm
  refine ⟨?_, ?_⟩
  · simp only [getV, hl2, e, h1]
  · simp only [getE, hl2, e, h2]
theorem rZero_is (s : ByteArray) (k l : Int) (h : mayB k l = true) (t : ByteArray) (ht : zeroL k l = t) (w : World) :
    Calls Try.prog 30 #[.agg #[.string s, .int .i64 k, .int .i64 l]] w fun e w' => e = .returned (.agg #[.int .i64 k, .int .u64 0, .string t]) ∧ Below w.heap.size w w' := by
  subst ht
  have := rZero_calls s k l w
  rwa [zeroV, if_pos h] at this
set_option maxHeartbeats 4000000 in
theorem FieldNew_no (A : Option Addr) (c : Nat) (fs : List Fd) (hr : rightF fs = false) (w : World) (hA : Rd w A (cellsF fs)) (hl : fs.length ≤ 9223372036854775807) :
    Calls Try.prog 9 #[.slice A fs.length c] w fun e w' => e = .returned (.bool true) ∧ Below w.heap.size w w' := by
  have HR := Lib.hid hr
  have hfew := few_calls A c fs w hA hl
  have HB := Below.refl w.heap.size w
  clear hr
  go_enter Try.func9, Try.ntmps9
  go_wp2_with (first
    | (go_at_call 11; refine hfew.mono ?_; rintro e w1 ⟨rf, rfl, hr40, hb⟩; have HB := HB.trans (hb.mono HB.size); have hA := hA.below hb; clear hb hr40)
    | (go_at_call 12; refine (alive_calls _).mono ?_; rintro e wM ⟨rfl, hb⟩; have HB := HB.trans (hb.mono HB.size); clear hb)
    | (go_at_call 15; refine (Right_m A c fs.length fs rfl false HR.out _ hA hl).mono ?_; rintro e wM ⟨rfl, hb⟩; have HB := HB.trans (hb.mono HB.size); have hA := hA.below hb; clear hb))
  all_goals go_ret
  all_goals exact ⟨rfl, HB⟩
set_option maxHeartbeats 4000000 in
theorem FieldNew_yes (A : Option Addr) (c : Nat) (fs : List Fd) (hr : rightF fs = true) (w : World) (hA : Rd w A (cellsF fs)) (hl : fs.length ≤ 9223372036854775807) :
    Calls Try.prog 9 #[.slice A fs.length c] w fun e w' => e = .returned (.bool true) ∧ Below w.heap.size w w' := by
  obtain ⟨z, hz⟩ : ∃ x, sizeF fs = x := ⟨_, rfl⟩
  have hstep : ∀ (k : Nat) (f : Fd), fs[k]? = some f → mayB f.k f.l = true ∧ getV (List.replicate z 0) fs f.s = ⟨f.k, 0, zeroL f.k f.l⟩ ∧ getE (List.replicate z 0) fs f.s = 0 := fun k f hf => ⟨(rightF_ok hr hf).2.1, get_new hr hf hz⟩
  have hfew := few_calls A c fs w hA hl
  have HB := Below.refl w.heap.size w
  have HR := Lib.hid hr
  have HST := Lib.hid hstep
  have HZ := Lib.hid hz
  clear hr hz hstep
  obtain ⟨m, hm⟩ : ∃ m, fs.length = m := ⟨_, rfl⟩
  rw [hm] at hl hfew ⊢
  have HM := Lib.hid hm
  clear hm
  go_enter Try.func9, Try.ntmps9
  go_wp2_with (first
    | (go_at_call 11; refine hfew.mono ?_; rintro e w1 ⟨rf, rfl, hr40, hb⟩; have HB := HB.trans (hb.mono HB.size); have hA := hA.below hb; clear hb hr40)
    | (go_at_call 12; refine (alive_calls _).mono ?_; rintro e wM ⟨rfl, hb⟩; have HB := HB.trans (hb.mono HB.size); clear hb)
    | (go_at_call 15; refine (Right_m A c m fs HM.out true HR.out _ hA hl).mono ?_; rintro e wM ⟨rfl, hb⟩; have HB := HB.trans (hb.mono HB.size); have hA := hA.below hb; clear hb)
    | (go_at_call 20; refine (New_m A c m fs HM.out z HZ.out _ hA hl).mono ?_; rintro e wM ⟨B1, c1, rfl, hc1, r1, hb⟩; have HB := HB.trans (hb.mono HB.size); have hA := hA.below hb; clear hb))
  all_goals first
    | (go_ret; exact ⟨rfl, HB⟩)
    | skip
  have HB0 := HB
  have hA0 := hA
  have r10 := r1
  clear HB hA r1
  go_loopw [5, 6, 7, 21] (fun _ _ _ i wr => ∃ k : Nat, k ≤ m ∧ i = .int .i64 k ∧ Below w.heap.size w wr ∧ Rd wr A (cellsF fs) ∧ Rd wr B1 (bytesV (List.replicate z 0))) (fun _ _ _ i _ => m - (intOf i).toNat)
  case atStart => exact ⟨0, by omega, rfl, HB0, hA0, r10⟩
  case round =>
    obtain ⟨k, hk, rfl, HB, hA, r1⟩ := hrel
    clear HB0 hA0 r10
    by_cases hlt : k < m
    · obtain ⟨f, hf⟩ : ∃ f, fs[k]? = some f := ⟨_, List.getElem?_eq_getElem (by rw [HM.out]; exact hlt)⟩
      obtain ⟨hmay, hgv, hge⟩ := HST.out k f hf
      obtain ⟨t, ht⟩ : ∃ t, zeroL f.k f.l = t := ⟨_, rfl⟩
      rw [ht] at hgv
      obtain ⟨ad, rfl, c0, c1', c2⟩ := hA.fld hf
      have F := FBox.new wr f.s f.k f.l
      have HB := HB.alloc HB.size (.cells #[.string f.s, .int .i64 f.k, .int .i64 f.l] 40)
      have hA := hA.below (below_new (.cells #[.string f.s, .int .i64 f.k, .int .i64 f.l] 40))
      have r1 := r1.below (below_new (.cells #[.string f.s, .int .i64 f.k, .int .i64 f.l] 40))
      obtain ⟨F0, F1, F2⟩ := id F
      have HG := Lib.hid hgv
      have HE := Lib.hid hge
      have HT := Lib.hid ht
      have HMAY := Lib.hid hmay
      clear hf hgv hge ht hmay
      go_wp2_with (go_at_call 25; refine (Get_m B1 z c1 (List.replicate z 0) (List.length_replicate ..) (some ad) c m fs HM.out f.s ⟨f.k, 0, t⟩ HG.out 0 HE.out _ hA hl r1 hc1).mono ?_; rintro e wM ⟨rfl, hb⟩; have HB := HB.trans (hb.mono HB.size); have hA := hA.below hb; have r1 := r1.below hb; have F := F.below hb; clear F0 F1 F2 hb; have V := VBox.new wM f.k 0 t; have HB := HB.alloc HB.size (.cells #[.int .i64 f.k, .int .u64 0, .string t] 37); have hA := hA.below (below_new (.cells #[.int .i64 f.k, .int .u64 0, .string t] 37)); have r1 := r1.below (below_new (.cells #[.int .i64 f.k, .int .u64 0, .string t] 37)); have F := F.below (below_new (.cells #[.int .i64 f.k, .int .u64 0, .string t] 37)))
      refine RW.start (fun w' => Below w.heap.size w w' ∧ Rd w' (some ad) (cellsF fs) ∧ Rd w' B1 (bytesV (List.replicate z 0)) ∧ FBox w' wr.heap.size f.s f.k f.l ∧ VBox w' wM.heap.size f.k 0 t) (by kernel_rfl) (by kernel_rfl) ⟨HB.drew, hA, r1, F, V⟩ ?_
      clear HB hA r1 F V
      repeat (first
        | (refine' RW.val (by rfl) ?_ ?_; rotate_left; (focus (intro w' hS; obtain ⟨HB, hA, r1, F, V⟩ := hS; obtain ⟨F0, F1, F2⟩ := id F; obtain ⟨V0, V1, V2⟩ := id V; go_simp; rfl)); simp only [Act.put, List.setIfInBounds_toArray, List.set_cons_zero, List.set_cons_succ])
        | (refine RW.off (by rfl) ?_; simp only [Act.put, List.setIfInBounds_toArray, List.set_cons_zero, List.set_cons_succ])
        | (refine' RW.call (by rfl) ?_ ?_ ?_
           rotate_left 3
           (focus (intro w' hS; obtain ⟨HB, hA, r1, F, V⟩ := hS; obtain ⟨F0, F1, F2⟩ := id F; obtain ⟨V0, V1, V2⟩ := id V; go_simp; exact ⟨rfl, rfl⟩))
           (focus
             intro w' hS
             obtain ⟨HB, hA, r1, F, V⟩ := hS; obtain ⟨F0, F1, F2⟩ := id F; obtain ⟨V0, V1, V2⟩ := id V
             first
               | (refine (rZero_is _ _ _ HMAY.out t HT.out _).mono ?_; rintro e w1 ⟨rfl, hb⟩; exact ⟨rfl, ⟨(below_seq HB hb), (hA.below hb), (r1.below hb), (F.below hb), (V.below hb)⟩⟩))
           simp only [Act.put, List.setIfInBounds_toArray, List.set_cons_zero, List.set_cons_succ]))
      refine RW.done (fun w' hS => ?_)
      obtain ⟨HB, hA, r1, F, V⟩ := hS; obtain ⟨F0, F1, F2⟩ := id F; obtain ⟨V0, V1, V2⟩ := id V
      go_wp2
      go_roundw
      case rel => exact ⟨k + 1, by omega, by go_num, HB, hA, r1⟩
      case measure => simp [intOf]; omega
    · clear hA r1
      go_wp2_with (go_at_call 12; refine (alive_calls _).mono ?_; rintro e wM ⟨rfl, hb⟩; have HB := HB.trans (hb.mono HB.size); clear hb)
      go_ret
      exact ⟨rfl, HB⟩
theorem FieldNew_calls (A : Option Addr) (c : Nat) (fs : List Fd) (w : World) (hA : Rd w A (cellsF fs)) (hl : fs.length ≤ 9223372036854775807) (hs : ∀ f ∈ fs, f.s.size ≤ 9223372036854775807) :
    Calls Try.prog 9 #[.slice A fs.length c] w fun e w' => e = .returned (.bool true) ∧ Below w.heap.size w w' := by
  cases hr : rightF fs
  · exact FieldNew_no A c fs hr w hA hl
  · exact FieldNew_yes A c fs hr w hA hl
end Go.Proofs.Ytepfabijmhhhcaa
