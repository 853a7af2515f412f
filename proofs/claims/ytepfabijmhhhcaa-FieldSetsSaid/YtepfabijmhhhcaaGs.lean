/- Layer 6 of the heap, fields, nineteenth part: the reference sets a field. -/
import Derived.Test.YtepfabijmhhhcaaGr
set_option linter.unusedSimpArgs false
set_option linter.unusedVariables false
namespace Go.Proofs.Ytepfabijmhhhcaa
open Go.RowKit

set_option maxHeartbeats 4000000 in
theorem rSet_bad (s : ByteArray) (A : Option Addr) (c : Nat) (fs : List Fd) (nm : ByteArray) (v : Vl) (q : Int) (h : locF fs s.size nm = .inl q) (w : World) (hA : Rd w A (cellsF fs)) (hl : fs.length ≤ 9223372036854775807) (hs : ∀ f ∈ fs, f.s.size ≤ 9223372036854775807) :
    Calls Try.prog 28 #[.string s, .slice A fs.length c, .string nm, v.v] w fun e w' => e = .returned (.tuple #[.string ⟨#[]⟩, .int .i64 q]) ∧ Below w.heap.size w w' := by
  obtain ⟨z, hz⟩ : ∃ z, sizeF fs = z := ⟨_, rfl⟩
  have HZ := Lib.hid hz
  have hcase : (rightF fs = false ∧ q = 60) ∨ (rightF fs = true ∧ ((s.size : Int) != (z : Int)) = true ∧ q = 60) ∨ (rightF fs = true ∧ ((s.size : Int) != (z : Int)) = false ∧ q = 61 ∧ findZ fs nm < 0) := by
    rcases loc_bad h with ⟨rfl, h1⟩ | ⟨rfl, h1, h2, h3⟩
    · cases hr : rightF fs
      · exact .inl ⟨rfl, rfl⟩
      · rw [hr] at h1
        have h1 := h1.resolve_left (by simp)
        exact .inr (.inl ⟨rfl, by rw [← hz]; simp; omega, rfl⟩)
    · exact .inr (.inr ⟨h1, by rw [← hz, h2]; simp, rfl, h3⟩)
  clear h hz
  unfold Vl.v
  rcases hcase with ⟨hr, rfl⟩ | ⟨hr, hne, rfl⟩ | ⟨hr, hne, rfl, hk⟩
  · have HR := Lib.hid hr
    clear hr
    go_enter Try.func28, Try.ntmps28
    go_wp2_with (first
      | (go_at_call 14; refine (rLayout_is A c fs z HZ.out _ (hA.below (below_new _)) hl hs).mono ?_; rintro e w1 ⟨B, m, c', rfl, hm, hrd, hb1⟩; have hA1 := (hA.below (below_new _)).below hb1)
      | (go_at_call 16; refine (rFRight_is A c fs _ HR.out _ hA1 hl hs).mono ?_; rintro e w2 ⟨rfl, hb2⟩; have HB := below_seq (below_seq (below_new _) hb1) hb2))
    go_ret2
    exact ⟨rfl, HB⟩
  · have HR := Lib.hid hr
    clear hr
    go_enter Try.func28, Try.ntmps28
    go_wp2_with (first
      | (go_at_call 14; refine (rLayout_is A c fs z HZ.out _ (hA.below (below_new _)) hl hs).mono ?_; rintro e w1 ⟨B, m, c', rfl, hm, hrd, hb1⟩; have hA1 := (hA.below (below_new _)).below hb1)
      | (go_at_call 16; refine (rFRight_is A c fs _ HR.out _ hA1 hl hs).mono ?_; rintro e w2 ⟨rfl, hb2⟩; have HB := below_seq (below_seq (below_new _) hb1) hb2))
    go_ret2
    exact ⟨rfl, HB⟩
  · have HR := Lib.hid hr
    obtain ⟨k, hkz⟩ : ∃ k, findZ fs nm = k := ⟨_, rfl⟩
    rw [hkz] at hk
    have HK := Lib.hid hkz
    have hd : decide (k < 0) = true := by simpa using hk
    clear hr hkz
    go_enter Try.func28, Try.ntmps28
    go_wp2_with (first
      | (go_at_call 14; refine (rLayout_is A c fs z HZ.out _ (hA.below (below_new _)) hl hs).mono ?_; rintro e w1 ⟨B, m, c', rfl, hm, hrd, hb1⟩; have hA1 := (hA.below (below_new _)).below hb1)
      | (go_at_call 16; refine (rFRight_is A c fs _ HR.out _ hA1 hl hs).mono ?_; rintro e w2 ⟨rfl, hb2⟩; have hA2 := hA1.below hb2)
      | (go_at_call 22; refine (rFind_is A c fs _ _ HK.out _ hA2 hl).mono ?_; rintro e w3 ⟨rfl, rfl⟩; have HB := below_seq (below_seq (below_new _) hb1) hb2))
    go_ret2
    exact ⟨rfl, HB⟩
theorem strL_over (s x : ByteArray) (i : Nat) (h : i + x.size ≤ s.size) : s.extract 0 i ++ x ++ s.extract (i + x.size) s.size = strL (overB (bl s) i (bl x)) := by
  have e : ∀ a b : ByteArray, bl (a ++ b) = bl a ++ bl b := fun a b => by simp [bl, ByteArray.data_append]
  rw [← strL_bl (s.extract 0 i ++ x ++ s.extract (i + x.size) s.size), e, e, bl_extract, bl_extract, overB, bl_length]
  rw [List.drop_zero, Nat.sub_zero, List.take_of_length_le (l := (bl s).drop (i + x.size)) (by rw [List.length_drop, bl_length]; exact Nat.le_refl _)]
set_option maxHeartbeats 8000000 in
theorem rSet_ok (s : ByteArray) (A : Option Addr) (c : Nat) (fs : List Fd) (nm : ByteArray) (v : Vl) (h0 : 0 ≤ v.b) (h1 : v.b < 18446744073709551616) (at_ : Nat) (f : Fd) (h : locF fs s.size nm = .inr (at_, f)) (w : World) (hA : Rd w A (cellsF fs)) (hl : fs.length ≤ 9223372036854775807) (hs : ∀ f ∈ fs, f.s.size ≤ 9223372036854775807) :
    Calls Try.prog 28 #[.string s, .slice A fs.length c, .string nm, v.v] w fun e w' => e = .returned (.tuple #[.string (strL (setB (bl s) fs nm v)), .int .i64 (setE (bl s) fs nm v)]) ∧ Below w.heap.size w w' := by
  obtain ⟨hm, hin, hlen, hn⟩ := loc_in h
  obtain ⟨hr, hz, k, hk, hf, hat⟩ := loc_ok h
  have hn2 := f.n_le
  have hset : ∀ x q, encS v.k v.b v.t f.k f.l = x → encE v.k v.b v.t f.k f.l = q → (q = 50 ∧ setB (bl s) fs nm v = [] ∧ setE (bl s) fs nm v = 50) ∨ (q = 0 ∧ x.size = f.n ∧ strL (setB (bl s) fs nm v) = s.extract 0 at_ ++ x ++ s.extract (at_ + x.size) s.size ∧ setE (bl s) fs nm v = 0) := by
    rintro x q rfl rfl
    cases hrr : rightB v.k v.b v.t f.k f.l
    · exact .inl ⟨by simp [encE, hrr], by simp [setB, bl_length, h, hrr], by simp [setE, bl_length, h, hrr]⟩
    · have e1 := encL_length hrr
      have e2 : encS v.k v.b v.t f.k f.l = strL (encL v.b v.t f.k f.l) := by simp [encS, hrr]
      refine .inr ⟨by simp [encE, hrr], by rw [e2, strL_size, e1], ?_, by simp [setE, bl_length, h, hrr]⟩
      rw [strL_over _ _ _ (by rw [e2, strL_size, e1]; omega), e2, bl_strL]
      simp [setB, bl_length, h, hrr]
  obtain ⟨x, hx⟩ : ∃ x, encS v.k v.b v.t f.k f.l = x := ⟨_, rfl⟩
  obtain ⟨q, hq⟩ : ∃ q, encE v.k v.b v.t f.k f.l = q := ⟨_, rfl⟩
  have hcase := hset x q hx hq
  have HX := Lib.hid hx
  have HQ := Lib.hid hq
  have HR := Lib.hid hr
  have HZ := Lib.hid hz.symm
  have HK := Lib.hid hk
  have HF := Lib.hid hf
  have HT := Lib.hid hat
  have hk1 := (List.getElem?_eq_some_iff.1 hf).1
  have hk2 := (List.getElem?_eq_some_iff.1 hat).1
  clear h hr hz hk hf hat hset hx hq
  unfold Vl.v
  have hi0 : (0 : Int) ≤ (k : Int) := by omega
  have hi1 : (k : Int) < ((layL fs).length : Int) := by omega
  have hi2 : (k : Int) < (fs.length : Int) := by omega
  rcases hcase with ⟨rfl, e1, e2⟩ | ⟨rfl, hxs, e1, e2⟩
  · rw [e1, e2]
    clear e1 e2
    go_enter Try.func28, Try.ntmps28
    go_wp2_with (first
      | (go_at_call 14; refine (rLayout_is A c fs s.size HZ.out _ (hA.below (below_new _)) hl hs).mono ?_; rintro e w1 ⟨B, m, c', rfl, hm, hrd, hb1⟩; have hA1 := (hA.below (below_new _)).below hb1)
      | (go_at_call 16; refine (rFRight_is A c fs _ HR.out _ hA1 hl hs).mono ?_; rintro e w2 ⟨rfl, hb2⟩; have hA2 := hA1.below hb2)
      | (go_at_call 22; refine (rFind_is A c fs _ _ HK.out _ hA2 hl).mono ?_; rintro e w3 ⟨rfl, rfl⟩; have HB := below_seq (below_seq (below_new _) hb1) hb2; obtain ⟨ad, rfl, g0, g1, g2⟩ := hA2.fld HF.out; obtain ⟨d0, d1, d2⟩ := ((VBox.new w v.k v.b v.t).below hb1).below hb2))
    refine RW.start (fun w' => Below w.heap.size w w' ∧ VBox w' w.heap.size v.k v.b v.t ∧ w'.cell? (ad.add (k * 3)) = some (.string f.s) ∧ w'.cell? ⟨(ad.add (k * 3)).block, (ad.add (k * 3)).off + (0 + 1), none⟩ = some (.int .i64 f.k) ∧ w'.cell? ⟨(ad.add (k * 3)).block, (ad.add (k * 3)).off + (1 + 1), none⟩ = some (.int .i64 f.l)) (by kernel_rfl) (by kernel_rfl) ⟨HB.drew, ⟨d0, d1, d2⟩, g0, g1, g2⟩ ?_
    clear HB d0 d1 d2 g0 g1 g2 hA1 hA2 hA hrd hb1 hb2
    repeat (first
      | (refine' RW.val (by rfl) ?_ ?_; rotate_left; (focus (intro w' hS; obtain ⟨HB, ⟨d0, d1, d2⟩, g0, g1, g2⟩ := hS; go_simp; rfl)); simp only [Act.put, List.setIfInBounds_toArray, List.set_cons_zero, List.set_cons_succ])
      | (refine RW.off (by rfl) ?_; simp only [Act.put, List.setIfInBounds_toArray, List.set_cons_zero, List.set_cons_succ])
      | (refine' RW.call (by rfl) ?_ ?_ ?_
         rotate_left 3
         (focus (intro w' hS; obtain ⟨HB, ⟨d0, d1, d2⟩, g0, g1, g2⟩ := hS; go_simp; exact ⟨rfl, rfl⟩))
         (focus
           intro w' hS
           obtain ⟨HB, ⟨d0, d1, d2⟩, g0, g1, g2⟩ := hS
           first
             | (refine (rEncode_is _ _ _ _ _ _ h0 h1 _ _ HX.out HQ.out _).mono ?_; rintro e w1 ⟨rfl, hb⟩; exact ⟨rfl, ⟨(below_seq HB hb), ⟨(cell_below (B := 0) hb d0), (cell_below (B := 0) hb d1), (cell_below (B := 0) hb d2)⟩, (cell_below (B := 0) hb g0), (cell_below (B := 0) hb g1), (cell_below (B := 0) hb g2)⟩⟩))
         simp only [Act.put, List.setIfInBounds_toArray, List.set_cons_zero, List.set_cons_succ]))
    refine RW.done (fun w' hS => ?_)
    obtain ⟨HB, ⟨d0, d1, d2⟩, g0, g1, g2⟩ := hS
    go_wp2
    go_ret2
    exact ⟨rfl, HB⟩
  · rw [e1, e2]
    clear e1 e2
    have HXS := Lib.hid hxs
    have hs1 : (at_ : Int) ≤ (s.size : Int) := by omega
    have hs2 : (at_ : Int) + (x.size : Int) ≤ (s.size : Int) := by omega
    have hs3 : ((at_ : Int) + (x.size : Int)).toNat = at_ + x.size := by omega
    have hs4 : (0 : Int) ≤ (at_ : Int) + (x.size : Int) := by omega
    have hs5 : IntKind.i64.wrap ((at_ : Int) + (x.size : Int)) = (at_ : Int) + (x.size : Int) := IntWalk.i64_in _ (by omega)
    have z1 : ¬ 9223372036854775807 < min at_ s.size + x.size := by omega
    have z2 : ¬ 9223372036854775807 < min at_ s.size + x.size + (s.size - (at_ + x.size)) := by omega
    clear hxs
    go_enter Try.func28, Try.ntmps28
    go_wp2_with (first
      | (go_at_call 14; refine (rLayout_is A c fs s.size HZ.out _ (hA.below (below_new _)) hl hs).mono ?_; rintro e w1 ⟨B, m, c', rfl, hm, hrd, hb1⟩; have hA1 := (hA.below (below_new _)).below hb1)
      | (go_at_call 16; refine (rFRight_is A c fs _ HR.out _ hA1 hl hs).mono ?_; rintro e w2 ⟨rfl, hb2⟩; have hA2 := hA1.below hb2)
      | (go_at_call 22; refine (rFind_is A c fs _ _ HK.out _ hA2 hl).mono ?_; rintro e w3 ⟨rfl, rfl⟩; have HB := below_seq (below_seq (below_new _) hb1) hb2; obtain ⟨ad, rfl, g0, g1, g2⟩ := hA2.fld HF.out; obtain ⟨d0, d1, d2⟩ := ((VBox.new w v.k v.b v.t).below hb1).below hb2; obtain ⟨bd, rfl, g3⟩ := (hrd.below hb2).int HT.out))
    refine RW.start (fun w' => Below w.heap.size w w' ∧ VBox w' w.heap.size v.k v.b v.t ∧ w'.cell? (ad.add (k * 3)) = some (.string f.s) ∧ w'.cell? ⟨(ad.add (k * 3)).block, (ad.add (k * 3)).off + (0 + 1), none⟩ = some (.int .i64 f.k) ∧ w'.cell? ⟨(ad.add (k * 3)).block, (ad.add (k * 3)).off + (1 + 1), none⟩ = some (.int .i64 f.l) ∧ w'.cell? (bd.add k) = some (.int .i64 at_)) (by kernel_rfl) (by kernel_rfl) ⟨HB.drew, ⟨d0, d1, d2⟩, g0, g1, g2, g3⟩ ?_
    clear HB d0 d1 d2 g0 g1 g2 g3 hA1 hA2 hA hrd hb1 hb2
    repeat (first
      | (refine' RW.val (by rfl) ?_ ?_; rotate_left; (focus (intro w' hS; obtain ⟨HB, ⟨d0, d1, d2⟩, g0, g1, g2, g3⟩ := hS; go_simp; rfl)); simp only [Act.put, List.setIfInBounds_toArray, List.set_cons_zero, List.set_cons_succ])
      | (refine RW.off (by rfl) ?_; simp only [Act.put, List.setIfInBounds_toArray, List.set_cons_zero, List.set_cons_succ])
      | (refine' RW.call (by rfl) ?_ ?_ ?_
         rotate_left 3
         (focus (intro w' hS; obtain ⟨HB, ⟨d0, d1, d2⟩, g0, g1, g2, g3⟩ := hS; go_simp; exact ⟨rfl, rfl⟩))
         (focus
           intro w' hS
           obtain ⟨HB, ⟨d0, d1, d2⟩, g0, g1, g2, g3⟩ := hS
           first
             | (refine (rEncode_is _ _ _ _ _ _ h0 h1 _ _ HX.out HQ.out _).mono ?_; rintro e w1 ⟨rfl, hb⟩; exact ⟨rfl, ⟨(below_seq HB hb), ⟨(cell_below (B := 0) hb d0), (cell_below (B := 0) hb d1), (cell_below (B := 0) hb d2)⟩, (cell_below (B := 0) hb g0), (cell_below (B := 0) hb g1), (cell_below (B := 0) hb g2), (cell_below (B := 0) hb g3)⟩⟩))
         simp only [Act.put, List.setIfInBounds_toArray, List.set_cons_zero, List.set_cons_succ]))
    refine RW.done (fun w' hS => ?_)
    obtain ⟨HB, ⟨d0, d1, d2⟩, g0, g1, g2, g3⟩ := hS
    go_wp2
    refine RW.start (fun w' => Below w.heap.size w w' ∧ w'.cell? (bd.add k) = some (.int .i64 at_)) (by kernel_rfl) (by kernel_rfl) ⟨HB.drew, g3⟩ ?_
    clear HB d0 d1 d2 g0 g1 g2 g3
    repeat (first
      | (refine' RW.val (by rfl) ?_ ?_; rotate_left; (focus (intro w' hS; obtain ⟨HB, g3⟩ := hS; go_simp; rfl)); simp only [Act.put, List.setIfInBounds_toArray, List.set_cons_zero, List.set_cons_succ])
      | (refine RW.off (by rfl) ?_; simp only [Act.put, List.setIfInBounds_toArray, List.set_cons_zero, List.set_cons_succ]))
    refine RW.done (fun w' hS => ?_)
    obtain ⟨HB, g3⟩ := hS
    go_wp2
    go_ret2
    exact ⟨rfl, HB⟩
theorem rSet_calls (s : ByteArray) (A : Option Addr) (c : Nat) (fs : List Fd) (nm : ByteArray) (v : Vl) (h0 : 0 ≤ v.b) (h1 : v.b < 18446744073709551616) (w : World) (hA : Rd w A (cellsF fs)) (hl : fs.length ≤ 9223372036854775807) (hs : ∀ f ∈ fs, f.s.size ≤ 9223372036854775807) :
    Calls Try.prog 28 #[.string s, .slice A fs.length c, .string nm, v.v] w fun e w' => e = .returned (.tuple #[.string (strL (setB (bl s) fs nm v)), .int .i64 (setE (bl s) fs nm v)]) ∧ Below w.heap.size w w' := by
  cases h : locF fs s.size nm with
  | inl q =>
    have e1 : setB (bl s) fs nm v = [] := by simp [setB, bl_length, h]
    have e2 : setE (bl s) fs nm v = q := by simp [setE, bl_length, h]
    rw [e1, e2]
    exact rSet_bad s A c fs nm v q h w hA hl hs
  | inr x =>
    obtain ⟨at_, f⟩ := x
    exact rSet_ok s A c fs nm v h0 h1 at_ f h w hA hl hs
end Go.Proofs.Ytepfabijmhhhcaa
