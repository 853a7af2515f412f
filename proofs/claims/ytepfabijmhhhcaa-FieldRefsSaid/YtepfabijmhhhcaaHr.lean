/- FieldRefs, walked: it tells true. -/
import Derived.Test.YtepfabijmhhhcaaHa
set_option linter.unusedSimpArgs false
set_option linter.unusedVariables false
namespace Go.Proofs.Ytepfabijmhhhcaa
open Go.RowKit

theorem refsS_append (a b : List (Nat × Fd)) : refsS (a ++ b) = refsS a ++ refsS b := by simp [refsS]
theorem endF_app (nx : Nat) (a b : List Fd) : seqF nx (a ++ b) = seqF nx a ++ seqF (endF nx a) b := by
  induction a generalizing nx with
  | nil => rfl
  | cons g r ih => simp only [List.cons_append, seqF, endF, ih]
theorem refs_at {fs : List Fd} {k : Nat} {f : Fd} (hf : fs[k]? = some f) (hk : f.k = 11) : (refsS (seqF 0 fs))[(refsS (seqF 0 (fs.take k))).length]? = some (atF (endF 0 (fs.take k)) f) := by
  have e : fs = fs.take (k + 1) ++ fs.drop (k + 1) := (List.take_append_drop _ _).symm
  have e2 : refsS (seqF 0 fs) = refsS (seqF 0 (fs.take k)) ++ (atF (endF 0 (fs.take k)) f :: refsS (seqF (endF 0 (fs.take (k + 1))) (fs.drop (k + 1)))) := by
    conv => lhs; rw [e]
    rw [endF_app, refsS_append, (seqF_take hf).1, refsS_snoc, if_pos hk]
    simp
  rw [e2, List.getElem?_append_right (Nat.le_refl _)]
  simp
set_option maxHeartbeats 4000000 in
theorem FieldRefs_no (A : Option Addr) (c : Nat) (fs : List Fd) (hr : rightF fs = false) (w : World) (hA : Rd w A (cellsF fs)) (hl : fs.length ≤ 9223372036854775807) :
    Calls Try.prog 7 #[.slice A fs.length c] w fun e w' => e = .returned (.bool true) ∧ Below w.heap.size w w' := by
  have HR := Lib.hid hr
  have hfew := few_calls A c fs w hA hl
  have HB := Below.refl w.heap.size w
  clear hr
  go_enter Try.func7, Try.ntmps7
  go_wp2_with (first
    | (go_at_call 11; refine hfew.mono ?_; rintro e w1 ⟨rf, rfl, hr40, hb⟩; have HB := HB.trans (hb.mono HB.size); have hA := hA.below hb; clear hb hr40)
    | (go_at_call 12; refine (alive_calls _).mono ?_; rintro e wM ⟨rfl, hb⟩; have HB := HB.trans (hb.mono HB.size); clear hb)
    | (go_at_call 15; refine (Right_m A c fs.length fs rfl false HR.out _ hA hl).mono ?_; rintro e wM ⟨rfl, hb⟩; have HB := HB.trans (hb.mono HB.size); have hA := hA.below hb; clear hb))
  all_goals go_ret
  all_goals exact ⟨rfl, HB⟩
set_option maxHeartbeats 4000000 in
theorem FieldRefs_yes (A : Option Addr) (c : Nat) (fs : List Fd) (hr : rightF fs = true) (w : World) (hA : Rd w A (cellsF fs)) (hl : fs.length ≤ 9223372036854775807) :
    Calls Try.prog 7 #[.slice A fs.length c] w fun e w' => e = .returned (.bool true) ∧ Below w.heap.size w w' := by
  obtain ⟨hmay, h16⟩ := rightF_may hr
  have hll := layL_length hr
  obtain ⟨ls, hls⟩ : ∃ x, layL fs = x := ⟨_, rfl⟩
  obtain ⟨rs, hrs⟩ : ∃ x, refsL fs = x := ⟨_, rfl⟩
  obtain ⟨q, hq⟩ : ∃ x, rs.length = x := ⟨_, rfl⟩
  obtain ⟨z, hz⟩ : ∃ x, sizeF fs = x := ⟨_, rfl⟩
  have hrr : rs = refsS (seqF 0 fs) := by rw [← hrs, refsL, if_pos hr]
  have hstep : ∀ (k : Nat) (f : Fd) (n : Nat), fs[k]? = some f → (refsS (seqF 0 (fs.take k))).length = n → ∃ a, ls[k]? = some a ∧ ((f.k = 11 ∧ rs[n]? = some a ∧ (refsS (seqF 0 (fs.take (k + 1)))).length = n + 1) ∨ (¬ f.k = 11 ∧ (refsS (seqF 0 (fs.take (k + 1)))).length = n)) := fun k f n hf hn => by
    refine ⟨atF (endF 0 (fs.take k)) f, ?_, ?_⟩
    · rw [← hls, layL, if_pos hr, List.getElem?_map, seqF_get 0 hf]; rfl
    · rw [(seqF_take hf).1, refsS_snoc]
      by_cases hk : f.k = 11
      · refine .inl ⟨hk, ?_, by rw [if_pos hk, List.length_append, hn]; rfl⟩
        rw [hrr, ← hn]; exact refs_at hf hk
      · exact .inr ⟨hk, by rw [if_neg hk, hn]⟩
  have hfin : (refsS (seqF 0 fs)).length = q := by rw [← hrr]; exact hq
  rw [hls] at hll
  have hfew := few_calls A c fs w hA hl
  have HB := Below.refl w.heap.size w
  have hq16 : q ≤ 16 := by have := refsS_le (seqF 0 fs); rw [seqF_length] at this; omega
  have HR := Lib.hid hr
  have HST := Lib.hid hstep
  have HZ := Lib.hid hz
  have HLS := Lib.hid hls
  have HRS := Lib.hid hrs
  have HQ := Lib.hid hq
  have HF := Lib.hid hfin
  clear hr hz hls hstep hrs hq hrr hfin
  obtain ⟨m, hm⟩ : ∃ m, fs.length = m := ⟨_, rfl⟩
  rw [hm] at hl hfew h16 ⊢
  have HM := Lib.hid hm
  have HLM : Hid (ls.length = m) := Lib.hid (hll.trans hm)
  clear hm hll
  go_enter Try.func7, Try.ntmps7
  go_wp2_with (first
    | (go_at_call 11; refine hfew.mono ?_; rintro e w1 ⟨rf, rfl, hr40, hb⟩; have HB := HB.trans (hb.mono HB.size); have hA := hA.below hb; clear hb hr40)
    | (go_at_call 12; refine (alive_calls _).mono ?_; rintro e wM ⟨rfl, hb⟩; have HB := HB.trans (hb.mono HB.size); clear hb)
    | (go_at_call 15; refine (Right_m A c m fs HM.out true HR.out _ hA hl).mono ?_; rintro e wM ⟨rfl, hb⟩; have HB := HB.trans (hb.mono HB.size); have hA := hA.below hb; clear hb)
    | (go_at_call 13; refine (Layout_m A c m fs HM.out z HZ.out ls HLS.out m HLM.out _ hA hl).mono ?_; rintro e wM ⟨B1, c1, rfl, r1, hb⟩; have HB := HB.trans (hb.mono HB.size); have hA := hA.below hb; clear hb)
    | (go_at_call 18; refine (Refs_m A c m fs HM.out rs HRS.out q HQ.out _ hA hl).mono ?_; rintro e wM ⟨B2, c2, rfl, r2, hb⟩; have HB := HB.trans (hb.mono HB.size); have hA := hA.below hb; have r1 := r1.below hb; clear hb))
  all_goals first
    | (go_ret; exact ⟨rfl, HB⟩)
    | skip
  have HB0 := HB
  have hA0 := hA
  have r10 := r1
  have r20 := r2
  clear HB hA r1 r2
  go_loopw [6, 7, 8, 27] (fun nn _ _ i wr => ∃ (k n : Nat), k ≤ m ∧ i = .int .i64 k ∧ nn = .int .i64 n ∧ n ≤ k ∧ Hid ((refsS (seqF 0 (fs.take k))).length = n) ∧ Below w.heap.size w wr ∧ Rd wr A (cellsF fs) ∧ Rd wr B1 (intsV ls) ∧ Rd wr B2 (intsV rs)) (fun _ _ _ i _ => m - (intOf i).toNat)
  case atStart => exact ⟨0, 0, by omega, rfl, rfl, by omega, Lib.hid rfl, HB0, hA0, r10, r20⟩
  case round =>
    obtain ⟨k, n, hk, rfl, rfl, hnk, HX, HB, hA, r1, r2⟩ := hrel
    clear HB0 hA0 r10 r20
    by_cases hlt : k < m
    · obtain ⟨f, hf⟩ : ∃ f, fs[k]? = some f := ⟨_, List.getElem?_eq_getElem (by rw [HM.out]; exact hlt)⟩
      obtain ⟨a, hla, hcase⟩ := HST.out k f n hf HX.out
      obtain ⟨ad, rfl, c0, c1, c2⟩ := hA.fld hf
      obtain ⟨bd, rfl, d0⟩ := r1.int hla
      have F := FBox.new wr f.s f.k f.l
      have HB := HB.alloc HB.size (.cells #[.string f.s, .int .i64 f.k, .int .i64 f.l] 40)
      have hA := hA.below (below_new (.cells #[.string f.s, .int .i64 f.k, .int .i64 f.l] 40))
      have r1 := r1.below (below_new (.cells #[.string f.s, .int .i64 f.k, .int .i64 f.l] 40))
      have r2 := r2.below (below_new (.cells #[.string f.s, .int .i64 f.k, .int .i64 f.l] 40))
      have d0 := cell_below (B := 0) (below_new (.cells #[.string f.s, .int .i64 f.k, .int .i64 f.l] 40)) d0
      obtain ⟨F0, F1, F2⟩ := id F
      clear hf hla
      rcases hcase with ⟨hk11, hra, hnext⟩ | ⟨hk11, hnext⟩
      · have ht : (f.k != 11) = false := by rw [hk11]; rfl
        have hnq := (List.getElem?_eq_some_iff.1 hra).1
        rw [HQ.out] at hnq
        obtain ⟨gd, rfl, g0⟩ := r2.int hra
        have HNX := Lib.hid hnext
        have hi1 : (k : Int) < (m : Int) := by omega
        have hi0 : (0 : Int) ≤ (k : Int) := by omega
        have hj1 : (n : Int) < (q : Int) := by omega
        have hj0 : (0 : Int) ≤ (n : Int) := by omega
        have t1 : decide ((q : Int) ≤ (n : Int)) = false := by simp; omega
        have t1' : decide (q ≤ n) = false := by simp; omega
        have t2 : decide ((m : Int) ≤ (k : Int)) = false := by simp; omega
        have t2' : decide (m ≤ k) = false := by simp; omega
        have t3 : ((a : Int) != (a : Int)) = false := by simp
        clear hk11 hra hnext
        go_wp2
        refine RW.start (fun w' => Below w.heap.size w w' ∧ Rd w' (some ad) (cellsF fs) ∧ Rd w' (some bd) (intsV ls) ∧ Rd w' (some gd) (intsV rs) ∧ w'.cell? (bd.add k) = some (.int .i64 a) ∧ w'.cell? (gd.add n) = some (.int .i64 a)) (by kernel_rfl) (by kernel_rfl) ⟨HB.drew, hA, r1, r2, d0, g0⟩ ?_
        clear HB hA r1 r2 d0 g0 F F0 F1 F2
        repeat (first
          | (refine' RW.val (by rfl) ?_ ?_; rotate_left; (focus (intro w' hS; obtain ⟨HB, hA, r1, r2, d0, g0⟩ := hS; go_simp; rfl)); simp only [Act.put, List.setIfInBounds_toArray, List.set_cons_zero, List.set_cons_succ])
          | (refine RW.off (by rfl) ?_; simp only [Act.put, List.setIfInBounds_toArray, List.set_cons_zero, List.set_cons_succ]))
        refine RW.done (fun w' hS => ?_)
        obtain ⟨HB, hA, r1, r2, d0, g0⟩ := hS
        go_wp2
        go_roundw
        case rel => exact ⟨k + 1, n + 1, by omega, by go_num, by go_num, by omega, HNX, HB, hA, r1, r2⟩
        case measure => simp [intOf]; omega
      · have ht : (f.k != 11) = true := by simpa using hk11
        have HNX := Lib.hid hnext
        clear hk11 hnext
        go_wp2
        go_roundw
        case rel => exact ⟨k + 1, n, by omega, by go_num, rfl, by omega, HNX, HB, hA, r1, r2⟩
        case measure => simp [intOf]; omega
    · obtain rfl : n = q := by
        have h1 := HX.out
        have : k = fs.length := by have := HM.out; omega
        rw [this, List.take_length, HF.out] at h1; exact h1.symm
      clear hA r1 r2
      go_wp2_with (go_at_call 12; refine (alive_calls _).mono ?_; rintro e wM ⟨rfl, hb⟩; have HB := HB.trans (hb.mono HB.size); clear hb)
      go_ret
      exact ⟨rfl, HB⟩
theorem FieldRefs_calls (A : Option Addr) (c : Nat) (fs : List Fd) (w : World) (hA : Rd w A (cellsF fs)) (hl : fs.length ≤ 9223372036854775807) (hs : ∀ f ∈ fs, f.s.size ≤ 9223372036854775807) :
    Calls Try.prog 7 #[.slice A fs.length c] w fun e w' => e = .returned (.bool true) ∧ Below w.heap.size w w' := by
  cases hr : rightF fs
  · exact FieldRefs_no A c fs hr w hA hl
  · exact FieldRefs_yes A c fs hr w hA hl
end Go.Proofs.Ytepfabijmhhhcaa
