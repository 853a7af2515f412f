/- Layer 6 of the heap, fields, seventeenth part: the reference's fields, got. -/
import Derived.Test.YtepfabijmhhhcaaGp
set_option linter.unusedSimpArgs false
set_option linter.unusedVariables false
namespace Go.Proofs.Ytepfabijmhhhcaa
open Go.RowKit

theorem bl_extract (s : ByteArray) (i j : Nat) : bl (s.extract i j) = ((bl s).drop i).take (j - i) := by
  simp [bl, ByteArray.data_extract]
theorem rDecode_is (s n : ByteArray) (k long : Int) (hs : s.size ≤ 9223372036854775807) (v : Vl) (q : Int) (hv : decV (bl s) k long = v.v) (hq : decE (bl s) k long = q) (w : World) :
    Calls Try.prog 44 #[.string s, .agg #[.string n, .int .i64 k, .int .i64 long]] w fun e w' => e = .returned (.tuple #[.agg #[.int .i64 v.k, .int .u64 v.b, .string v.t], .int .i64 q]) ∧ Below w.heap.size w w' := by
  subst hq
  have := rDecode_calls s n k long hs w
  rw [hv] at this
  exact this
set_option maxHeartbeats 4000000 in
theorem rRefs_calls (A : Option Addr) (c : Nat) (fs : List Fd) (w : World) (hA : Rd w A (cellsF fs)) (hl : fs.length ≤ 9223372036854775807) (hs : ∀ f ∈ fs, f.s.size ≤ 9223372036854775807) :
    Calls Try.prog 19 #[.slice A fs.length c] w fun e w' => ∃ v, e = .returned v ∧ w'.ownsRow w.heap.size 3 1 v (refsL fs).length (intsV (refsL fs)) ∧ Below w.heap.size w w' := by
  obtain ⟨i0, hi, hz0, hz1, hz2⟩ := info_parts infoInt
  obtain ⟨z, hz⟩ : ∃ z, sizeF fs = z := ⟨_, rfl⟩
  have HZ := Lib.hid hz
  clear hz
  have hm16 : (layL fs).length ≤ 16 ∧ (layL fs).length ≤ fs.length := by
    cases hr : rightF fs
    · simp [layL, hr]
    · have := (rightF_may hr).2; rw [layL_length hr]; omega
  obtain ⟨m, hm⟩ : ∃ m, (layL fs).length = m := ⟨_, rfl⟩
  have hst : ∀ k, k < m → ∃ f a, fs[k]? = some f ∧ (layL fs)[k]? = some a ∧ refsS (seqF 0 (fs.take (k + 1))) = if f.k = 11 then refsS (seqF 0 (fs.take k)) ++ [a] else refsS (seqF 0 (fs.take k)) := fun k hk => by
    have hr : rightF fs = true := by
      cases hr : rightF fs
      · simp [layL, hr] at hm; omega
      · rfl
    have h1 : k < fs.length := by rw [layL_length hr] at hm; omega
    obtain ⟨f, hf⟩ : ∃ f, fs[k]? = some f := ⟨_, List.getElem?_eq_getElem h1⟩
    refine ⟨f, atF (endF 0 (fs.take k)) f, hf, ?_, ?_⟩
    · rw [layL, if_pos hr, List.getElem?_map, seqF_get 0 hf]; rfl
    · rw [(seqF_take hf).1, refsS_snoc]
  have hfin : refsS (seqF 0 (fs.take m)) = refsL fs := by
    cases hr : rightF fs
    · have : m = 0 := by rw [← hm]; simp [layL, hr]
      subst this; simp [refsL, hr, seqF, refsS]
    · rw [layL_length hr] at hm; rw [← hm, List.take_length, refsL, if_pos hr]
  rw [hm] at hm16
  have HST := Lib.hid hst
  have HFIN := Lib.hid hfin
  have HM := Lib.hid hm
  clear hst hfin hm
  go_enter Try.func19, Try.ntmps19
  go_wp2_with (go_at_call 14; refine (rLayout_is A c fs z HZ.out _ hA hl hs).mono ?_; rintro e w1 ⟨B, m', c', rfl, hm', hr, hb1⟩; obtain rfl : m' = m := hm'.trans HM.out)
  have hA := hA.below hb1
  go_loopw [3, 6] (fun v i wr => ∃ k : Nat, k ≤ m' ∧ i = .int .i64 k ∧ wr.ownsRow w1.heap.size 3 1 v (refsS (seqF 0 (fs.take k))).length (intsV (refsS (seqF 0 (fs.take k)))) ∧ Below w1.heap.size w1 wr) (fun _ i _ => m' - (intOf i).toNat)
  case atStart => exact ⟨0, by omega, rfl, own_nil _ _ _ _, Below.refl _ _⟩
  case round =>
    obtain ⟨k, hk, rfl, hown, HB⟩ := hrel
    have hrd := hr.below HB
    have hAr := hA.below HB
    by_cases hlt : k < m'
    · obtain ⟨f, a, hf, ha, hsn⟩ := HST.out k hlt
      obtain ⟨ad, rfl, c0, c1, c2⟩ := hAr.fld hf
      obtain ⟨bd, rfl, d0⟩ := hrd.int ha
      have hlr : (refsS (seqF 0 (fs.take k))).length ≤ 16 := by
        have := refsS_le (seqF 0 (fs.take k))
        rw [seqF_length, List.length_take] at this; omega
      have hk1 : k < fs.length := (List.getElem?_eq_some_iff.1 hf).1
      clear hf ha hA hAr hr hb1
      by_cases hk11 : f.k = 11
      · have ht : (f.k == 11) = true := by simpa using hk11
        rw [if_pos hk11] at hsn
        have HS := Lib.hid hsn
        clear hk11 hsn
        go_wp2_with (at_builtin; refine wpList_append_own _ rfl _ _ 25 rfl w1.heap.size 3 i0 (.int .i64 0) 1 8 Try.underlying25 hi hz0 hz1 hz2 rfl (by decide) _ _ _ rfl (hown.alloc _) ⟨wr.heap.size, 0, none⟩ 1 1 [.int .i64 (a : Int)] rfl rfl (news1 _ _ _) ?c2 ?c3 ?c4 ?c5 ?_)
        case c2 => intro u hu; simp at hu; subst hu; rfl
        case c3 => simp only [maxLen]; omega
        case c4 => omega
        case c5 => have := HB.size; simp; omega
        intro v' w3 hown' hgrow _
        have hs2 := HB.size
        have HB3 := Below.grown (HB.alloc hs2 (.cells #[.int .i64 (a : Int)] 3)) hgrow (by simp; omega) (fun q hq => own_base hown q hq)
        have hown3 : w3.ownsRow w1.heap.size 3 1 v' (refsS (seqF 0 (fs.take (k + 1)))).length (intsV (refsS (seqF 0 (fs.take (k + 1))))) := own_eq hown' (by rw [HS.out, List.length_append]; rfl) (by rw [HS.out]; simp [intsV])
        clear hown' hgrow hown c0 c1 c2 d0 hrd
        go_wp2
        go_roundw
        case rel => exact ⟨k + 1, by omega, by go_num, hown3, HB3⟩
        case measure => simp [intOf]; omega
      · have ht : (f.k == 11) = false := by simpa using hk11
        rw [if_neg hk11] at hsn
        have HS := Lib.hid hsn
        clear hk11 hsn
        go_wp2
        go_roundw
        case rel => exact ⟨k + 1, by omega, by go_num, by rw [HS.out]; exact hown, HB⟩
        case measure => simp [intOf]; omega
    · obtain rfl : k = m' := by omega
      rw [HFIN.out] at hown
      clear hA hAr hrd hr
      go_wp2
      go_ret
      exact ⟨_, rfl, own_mono hown hb1.size, hb1.trans (HB.mono hb1.size)⟩
end Go.Proofs.Ytepfabijmhhhcaa
