/- Layer 6 of the heap, fields, sixteenth part: the reference's places. -/
import Derived.Test.YtepfabijmhhhcaaGo
set_option linter.unusedSimpArgs false
set_option linter.unusedVariables false
namespace Go.Proofs.Ytepfabijmhhhcaa
open Go.RowKit

theorem upN_mod (a n : Nat) (hn : 0 < n) : upN a n % n = 0 := by unfold upN; exact Nat.mul_mod_left _ _
theorem upN_min {a n x : Nat} (hn : 0 < n) (h1 : a ≤ x) (h2 : x % n = 0) : upN a n ≤ x := by
  unfold upN
  have e : x = x / n * n := by have := Nat.div_add_mod x n; rw [h2, Nat.mul_comm] at this; omega
  have : (a + n - 1) / n < x / n + 1 := by
    rw [Nat.div_lt_iff_lt_mul hn, Nat.add_mul]; omega
  calc (a + n - 1) / n * n ≤ x / n * n := Nat.mul_le_mul_right n (by omega)
    _ = x := e.symm
theorem rFRight_is (A : Option Addr) (c : Nat) (fs : List Fd) (r : Bool) (h : rightF fs = r) (w : World) (hA : Rd w A (cellsF fs)) (hl : fs.length ≤ 9223372036854775807) (hs : ∀ f ∈ fs, f.s.size ≤ 9223372036854775807) :
    Calls Try.prog 16 #[.slice A fs.length c] w fun e w' => e = .returned (.bool r) ∧ Below w.heap.size w w' := h ▸ rFRight_calls A c fs w hA hl hs
theorem rLayout_no (A : Option Addr) (c : Nat) (fs : List Fd) (hr : rightF fs = false) (w : World) (hA : Rd w A (cellsF fs)) (hl : fs.length ≤ 9223372036854775807) (hs : ∀ f ∈ fs, f.s.size ≤ 9223372036854775807) :
    Calls Try.prog 14 #[.slice A fs.length c] w fun e w' => e = .returned (.tuple #[.slice none 0 0, .int .i64 0]) ∧ Below w.heap.size w w' := by
  have HR := Lib.hid hr
  clear hr
  go_enter Try.func14, Try.ntmps14
  go_wp2_with (go_at_call 16; refine (rFRight_is _ _ _ _ HR.out _ hA hl hs).mono ?_; rintro e w1 ⟨rfl, hb1⟩)
  go_ret2
  exact ⟨rfl, hb1⟩
set_option maxHeartbeats 8000000 in
theorem rLayout_yes (A : Option Addr) (c : Nat) (fs : List Fd) (hr : rightF fs = true) (w : World) (hA : Rd w A (cellsF fs)) (hl : fs.length ≤ 9223372036854775807) (hs : ∀ f ∈ fs, f.s.size ≤ 9223372036854775807) :
    Calls Try.prog 14 #[.slice A fs.length c] w fun e w' => ∃ v, e = .returned (.tuple #[v, .int .i64 (upN (endF 0 fs) 8 : Nat)]) ∧ w'.ownsRow w.heap.size 3 1 v fs.length (intsV ((seqF 0 fs).map Prod.fst)) ∧ Below w.heap.size w w' := by
  obtain ⟨i0, hi, hz0, hz1, hz2⟩ := info_parts infoInt
  obtain ⟨hmay, h16⟩ := rightF_may hr
  have hend := endF_le (nx := 0) hmay
  have HR := Lib.hid hr
  clear hr
  go_enter Try.func14, Try.ntmps14
  go_wp2_with (go_at_call 16; refine (rFRight_is _ _ _ _ HR.out _ hA hl hs).mono ?_; rintro e w1 ⟨rfl, hb1⟩)
  go_loopw [4, 5, 6] (fun v a i wr => ∃ k : Nat, k ≤ fs.length ∧ i = .int .i64 k ∧ a = .int .i64 (endF 0 (fs.take k) : Nat) ∧ wr.ownsRow w.heap.size 3 1 v k (intsV ((seqF 0 (fs.take k)).map Prod.fst)) ∧ Below w.heap.size w wr) (fun _ _ i _ => fs.length - (intOf i).toNat)
  case atStart => exact ⟨0, by omega, rfl, rfl, own_nil _ _ _ _, hb1⟩
  case round =>
    obtain ⟨k, hk, rfl, rfl, hown, HB⟩ := hrel
    clear hb1
    have hAr := hA.below HB
    by_cases hlt : k < fs.length
    · obtain ⟨f, hf⟩ : ∃ f, fs[k]? = some f := ⟨_, List.getElem?_eq_getElem hlt⟩
      have hm := hmay f (List.mem_of_getElem? hf)
      have hle := endF_le (nx := 0) (hmay.take k)
      rw [List.length_take, Nat.min_eq_left hk] at hle
      obtain ⟨e1, e2⟩ := seqF_take hf
      have ha := atF_le (nx := endF 0 (fs.take k)) hm
      have hn1 := Fd.n_le f
      have hn0 := Fd.n_pos hm
      have HL := Lib.hid f.n_eq.symm
      have HF := Lib.hid hf
      obtain ⟨nx, hnx⟩ : ∃ nx, endF 0 (fs.take k) = nx := ⟨_, rfl⟩
      rw [hnx] at e1 e2 ha hle ⊢
      obtain ⟨at_, hat⟩ : ∃ a, atF nx f = a := ⟨_, rfl⟩
      rw [hat] at e1 e2 ha
      have E1 := Lib.hid e1
      have E2 := Lib.hid e2
      have HAT := Lib.hid hat
      have hA0 := hA
      clear e1 e2 hnx hf hat hA
      go_wp2
      obtain ⟨wo, rfl⟩ : ∃ wo : World, wo = wr := ⟨_, rfl⟩
      go_loopw [5] (fun a wr => ∃ x : Nat, nx ≤ x ∧ x ≤ at_ ∧ a = .int .i64 x ∧ wr.ownsRow w.heap.size 3 1 u4 k (intsV ((seqF 0 (fs.take k)).map Prod.fst)) ∧ Below w.heap.size w wr ∧ Rd wr A (cellsF fs)) (fun a _ => at_ - (intOf a).toNat)
      case atStart => exact ⟨nx, by omega, by omega, rfl, hown, HB, hAr⟩
      case round =>
        obtain ⟨x, hx1, hx2, rfl, hown, HB, hAr⟩ := hrel
        obtain ⟨ad, hadd, c0, c1, c2⟩ := hAr.fld HF.out
        subst hadd
        by_cases hk12 : f.k = 12
        · obtain rfl : x = at_ := by have := HAT.out; rw [atF, if_pos hk12] at this; omega
          have hk12' : (f.k != 12) = false := by rw [hk12]; rfl
          have tok1 := True.intro
          clear hk12
          go_wp2_with (first
            | (have _t := tok9; go_at_call 29; refine (rLong_is _ _ _ _ HL.out _).mono ?_; rintro e w2 ⟨rfl, hb2⟩; have HB := HB.trans (hb2.mono HB.size); have hown := own_below hown hb2; have c0 := cell_below (B := 0) hb2 c0; have c1 := cell_below (B := 0) hb2 c1; have c2 := cell_below (B := 0) hb2 c2; have hAr := hAr.below hb2; clear tok9 hb2; have tokB := True.intro; obtain ⟨wz, hwz⟩ : ∃ z : World, z = w2 := ⟨_, rfl⟩; subst hwz)
            | (at_builtin; refine wpList_append_own _ rfl _ _ 25 rfl w.heap.size 3 i0 (.int .i64 0) 1 8 Try.underlying25 hi hz0 hz1 hz2 rfl (by decide) _ _ _ rfl (hown.alloc _) ⟨_, 0, none⟩ 1 1 [.int .i64 (x : Int)] rfl rfl (news1 _ _ _) ?c2 ?c3 ?c4 ?c5 ?_))
          case c2 => intro u hu; simp at hu; subst hu; rfl
          case c3 => simp only [maxLen]; omega
          case c4 => omega
          case c5 => have := HB.size; simp; omega
          intro v' w3 hown' hgrow _
          have hs2 := HB.size
          have HB3 := Below.grown (HB.alloc hs2 (.cells #[.int .i64 (x : Int)] 3)) hgrow (by simp; omega) (fun q hq => own_base hown q hq)
          have hA3 := hA0.below HB3
          obtain ⟨ad', hadd', d0, d1, d2⟩ := hA3.fld HF.out
          cases hadd'
          have hown3 : w3.ownsRow w.heap.size 3 1 v' (k + 1) (intsV ((seqF 0 (fs.take (k + 1))).map Prod.fst)) := own_eq hown' rfl (by rw [E1.out]; simp [intsV])
          clear hown' hgrow hown c0 c1 c2 hAr hA3
          go_wp2_with (go_at_call 29; refine (rLong_is _ _ _ _ HL.out _).mono ?_; rintro e w4 ⟨rfl, hb4⟩; have HB4 := HB3.trans (hb4.mono HB3.size); have hown4 := own_below hown3 hb4; clear hb4)
          go_roundw
          case rel => exact ⟨k + 1, by omega, by go_num, by rw [E2.out]; go_num, hown4, HB4⟩
          case measure => simp [intOf]; omega
        · have hk12' : (f.k != 12) = true := by simpa using hk12
          have hup : upN nx f.n = at_ := by have := HAT.out; rwa [atF, if_neg hk12] at this
          have hnz : ((f.n : Int) == 0) = false := by simp; omega
          clear hk12
          by_cases hx : x % f.n = 0
          · obtain rfl : x = at_ := by have := upN_min hn0 hx1 hx; omega
            have hxz : ((x : Int) % (f.n : Int) != 0) = false := by
              have : ((x % f.n : Nat) : Int) = 0 := by rw [hx]; rfl
              rw [Int.natCast_emod] at this
              rw [this]; rfl
            have tok0 := True.intro
            clear hup hx
            go_wp2_with (first
              | (have _t := tok0; go_at_call 29; refine (rLong_is _ _ _ _ HL.out _).mono ?_; rintro e w2 ⟨rfl, hb2⟩; have HB := HB.trans (hb2.mono HB.size); have hown := own_below hown hb2; have c0 := cell_below (B := 0) hb2 c0; have c1 := cell_below (B := 0) hb2 c1; have c2 := cell_below (B := 0) hb2 c2; have hAr := hAr.below hb2; clear tok0 hb2; have tokB := True.intro; obtain ⟨wz, hwz⟩ : ∃ z : World, z = w2 := ⟨_, rfl⟩; subst hwz)
              | (at_builtin; refine wpList_append_own _ rfl _ _ 25 rfl w.heap.size 3 i0 (.int .i64 0) 1 8 Try.underlying25 hi hz0 hz1 hz2 rfl (by decide) _ _ _ rfl (hown.alloc _) ⟨_, 0, none⟩ 1 1 [.int .i64 (x : Int)] rfl rfl (news1 _ _ _) ?c2 ?c3 ?c4 ?c5 ?_))
            case c2 => intro u hu; simp at hu; subst hu; rfl
            case c3 => simp only [maxLen]; omega
            case c4 => omega
            case c5 => have := HB.size; simp; omega
            intro v' w3 hown' hgrow _
            have hs2 := HB.size
            have HB3 := Below.grown (HB.alloc hs2 (.cells #[.int .i64 (x : Int)] 3)) hgrow (by simp; omega) (fun q hq => own_base hown q hq)
            have hA3 := hA0.below HB3
            obtain ⟨ad', hadd', d0, d1, d2⟩ := hA3.fld HF.out
            cases hadd'
            have hown3 : w3.ownsRow w.heap.size 3 1 v' (k + 1) (intsV ((seqF 0 (fs.take (k + 1))).map Prod.fst)) := own_eq hown' rfl (by rw [E1.out]; simp [intsV])
            clear hown' hgrow hown c0 c1 c2 hAr hA3
            go_wp2_with (go_at_call 29; refine (rLong_is _ _ _ _ HL.out _).mono ?_; rintro e w4 ⟨rfl, hb4⟩; have HB4 := HB3.trans (hb4.mono HB3.size); have hown4 := own_below hown3 hb4; clear hb4)
            go_roundw
            case rel => exact ⟨k + 1, by omega, by go_num, by rw [E2.out]; go_num, hown4, HB4⟩
            case measure => simp [intOf]; omega
          · have hxz : ((x : Int) % (f.n : Int) != 0) = true := by
              rw [← Int.natCast_emod]; simp; omega
            have hlt2 : x < at_ := by
              rcases (by omega : x < at_ ∨ x = at_) with h | h
              · exact h
              · exfalso; apply hx; rw [h, ← hup]; exact upN_mod _ _ hn0
            clear hup hx
            go_wp2_with (go_at_call 29; refine (rLong_is _ _ _ _ HL.out _).mono ?_; rintro e w2 ⟨rfl, hb2⟩; have HB := HB.trans (hb2.mono HB.size); have hown := own_below hown hb2; have hAr := hAr.below hb2; clear hb2)
            go_roundw
            case rel => exact ⟨x + 1, by omega, by omega, by go_num, hown, HB, hAr⟩
            case measure => simp [intOf]; omega
    · obtain rfl : k = fs.length := by omega
      rw [List.take_length] at hown ⊢
      obtain ⟨nx, hnx⟩ : ∃ nx, endF 0 fs = nx := ⟨_, rfl⟩
      obtain ⟨up, hup⟩ : ∃ u, upN nx 8 = u := ⟨_, rfl⟩
      rw [hnx] at hend ⊢
      have HE := Lib.hid hnx
      have hu := upN_le nx 8 (by omega)
      rw [hup] at hu
      have HU := Lib.hid hup
      clear hnx hup hA hAr
      go_wp2
      obtain ⟨wo, rfl⟩ : ∃ wo : World, wo = wr := ⟨_, rfl⟩
      go_loop [5] (fun a => ∃ x : Nat, nx ≤ x ∧ x ≤ up ∧ a = .int .i64 x) (fun a => up - (intOf a).toNat)
      case atStart => exact ⟨nx, by omega, by omega, rfl⟩
      case round =>
        obtain ⟨x, hx1, hx2, rfl⟩ := hrel
        by_cases hx : x % 8 = 0
        · obtain rfl : x = up := by have := upN_min (by omega) hx1 hx; have := HU.out; omega
          have hxz : ((x : Int) % 8 != 0) = false := by simp; omega
          clear hx
          go_wp2
          go_ret2
          exact ⟨u4, by rw [HE.out, HU.out]; rfl, hown, HB⟩
        · have hxz : ((x : Int) % 8 != 0) = true := by simp; omega
          have hlt2 : x < up := by
            rcases (by omega : x < up ∨ x = up) with h | h
            · exact h
            · exfalso; apply hx; rw [h, ← HU.out]; exact upN_mod _ _ (by omega)
          clear hx
          go_wp2
          go_round
          case rel => exact ⟨x + 1, by omega, by omega, by go_num⟩
          case measure => simp [intOf]; omega
theorem rLayout_is (A : Option Addr) (c : Nat) (fs : List Fd) (z : Nat) (hz : sizeF fs = z) (w : World) (hA : Rd w A (cellsF fs)) (hl : fs.length ≤ 9223372036854775807) (hs : ∀ f ∈ fs, f.s.size ≤ 9223372036854775807) :
    Calls Try.prog 14 #[.slice A fs.length c] w fun e w' => ∃ B m c', e = .returned (.tuple #[.slice B m c', .int .i64 (z : Nat)]) ∧ m = (layL fs).length ∧ Rd w' B (intsV (layL fs)) ∧ Below w.heap.size w w' := by
  subst hz
  cases hr : rightF fs
  · refine (rLayout_no A c fs hr w hA hl hs).mono ?_
    rintro e w' ⟨rfl, hb⟩
    have e1 : layL fs = [] := by simp [layL, hr]
    have e2 : sizeF fs = 0 := by simp [sizeF, hr]
    rw [e1, e2]
    exact ⟨none, 0, 0, rfl, rfl, Rd.nil _ _, hb⟩
  · refine (rLayout_yes A c fs hr w hA hl hs).mono ?_
    rintro e w' ⟨v, rfl, ho, hb⟩
    have e1 : layL fs = (seqF 0 fs).map Prod.fst := by simp [layL, hr]
    have e2 : sizeF fs = upN (endF 0 fs) 8 := by simp [sizeF, hr]
    obtain ⟨B, c', rfl, _, _, h2⟩ := own_rd ho
    rw [e1, e2]
    exact ⟨B, _, c', rfl, by rw [List.length_map, seqF_length], h2, hb⟩
/-- two rows of numbers are told apart -/
theorem Same3_calls (A B : Option Addr) (c d : Nat) (a b : List Nat) (w : World) (hA : Rd w A (intsV a)) (hB : Rd w B (intsV b)) (ha : a.length ≤ 9223372036854775807) (hb : b.length ≤ 9223372036854775807) :
    Calls Try.prog 17 #[.slice A a.length c, .slice B b.length d] w fun e w' => e = .returned (.bool (decide (a = b))) ∧ Below w.heap.size w w' := by
  by_cases hlen : a.length = b.length
  · have hz : ((a.length : Int) != (b.length : Int)) = false := by rw [hlen]; simp
    obtain ⟨r, hr⟩ : ∃ r, decide (a = b) = r := ⟨_, rfl⟩
    rw [hr]
    have HR := Lib.hid hr
    have HL := Lib.hid hlen
    clear hr
    obtain ⟨m, hm⟩ : ∃ m, b.length = m := ⟨_, rfl⟩
    rw [hm] at hz hlen ⊢
    have HM := Lib.hid hm
    clear hm hlen hb
    go_enter Try.func17, Try.ntmps17
    go_wp2
    go_loopw [5] (fun i wr => ∃ k : Nat, k ≤ a.length ∧ i = .int .i64 k ∧ Below w.heap.size w wr ∧ Hid (a.take k = b.take k)) (fun i _ => a.length - (intOf i).toNat)
    case atStart => exact ⟨0, by omega, rfl, Below.refl _ _, Lib.hid rfl⟩
    case round =>
      obtain ⟨k, hk, rfl, HB, hall⟩ := hrel
      have hAr := hA.below HB
      have hBr := hB.below HB
      clear hA hB
      by_cases hlt : k < a.length
      · have hlb : k < m := by have := HL.out; have := HM.out; omega
        obtain ⟨x, hx⟩ : ∃ x, a[k]? = some x := ⟨_, List.getElem?_eq_getElem hlt⟩
        obtain ⟨y, hy⟩ : ∃ y, b[k]? = some y := ⟨_, List.getElem?_eq_getElem (by rw [HM.out]; exact hlb)⟩
        obtain ⟨ad, rfl, c0⟩ := hAr.int hx
        obtain ⟨bd, rfl, d0⟩ := hBr.int hy
        have HX := Lib.hid hx
        have HY := Lib.hid hy
        clear hx hy hAr hBr
        have hi0 : (0 : Int) ≤ (k : Int) := by omega
        have hi1 : (k : Int) < (a.length : Int) := by omega
        have hi2 : (k : Int) < (m : Int) := by omega
        go_wp2
        refine RW.start (fun w' => Below w.heap.size w w' ∧ w'.cell? (ad.add k) = some (.int .i64 x) ∧ w'.cell? (bd.add k) = some (.int .i64 y)) (by kernel_rfl) (by kernel_rfl) ⟨HB.drew, c0, d0⟩ ?_
        clear HB c0 d0
        repeat (first
          | (refine' RW.val (by rfl) ?_ ?_; rotate_left; (focus (intro w' hS; obtain ⟨HB, c0, d0⟩ := hS; go_simp; rfl)); simp only [Act.put, List.setIfInBounds_toArray, List.set_cons_zero, List.set_cons_succ])
          | (refine RW.off (by rfl) ?_; simp only [Act.put, List.setIfInBounds_toArray, List.set_cons_zero, List.set_cons_succ]))
        refine RW.done (fun w' hS => ?_)
        obtain ⟨HB, c0, d0⟩ := hS
        by_cases hxy : x = y
        · have ht : ((x : Int) != (y : Int)) = false := by simp [hxy]
          have hall2 : Hid (a.take (k + 1) = b.take (k + 1)) := Lib.hid (by rw [List.take_add_one, List.take_add_one, hall.out, HX.out, HY.out, hxy])
          clear hxy hall
          go_wp2
          go_roundw
          case rel => exact ⟨k + 1, by omega, by go_num, HB, hall2⟩
          case measure => simp [intOf]; omega
        · have ht : ((x : Int) != (y : Int)) = true := by simp; omega
          obtain rfl : r = false := by
            rw [← HR.out]; simp; intro e
            have h1 := HX.out; rw [e, HY.out] at h1; exact hxy (Option.some.inj h1).symm
          clear hxy hall
          go_wp2
          go_ret
          exact ⟨rfl, HB⟩
      · obtain rfl : k = a.length := by omega
        obtain rfl : r = true := by
          rw [← HR.out]; have h := hall.out
          rw [List.take_length, HL.out, List.take_length] at h
          simpa using h
        clear hAr hBr
        go_wp2
        go_ret
        exact ⟨rfl, HB⟩
  · have hz : ((a.length : Int) != (b.length : Int)) = true := by simp; omega
    have hr : decide (a = b) = false := by simp; intro e; exact hlen (by rw [e])
    rw [hr]
    clear hr hlen
    go_enter Try.func17, Try.ntmps17
    go_wp2
    go_ret
    exact ⟨rfl, Below.refl _ _⟩
end Go.Proofs.Ytepfabijmhhhcaa
