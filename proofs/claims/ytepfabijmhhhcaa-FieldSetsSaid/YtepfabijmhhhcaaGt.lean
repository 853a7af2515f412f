/- Layer 6 of the heap, fields, twentieth part: the reference writes fields; two rows of fields are told apart. -/
import Derived.Test.YtepfabijmhhhcaaGs
set_option linter.unusedSimpArgs false
set_option linter.unusedVariables false
namespace Go.Proofs.Ytepfabijmhhhcaa
open Go.RowKit

theorem rPut1_is (n : Int) (h0 : 0 ≤ n) (h1 : n < 256) (p : ByteArray) (hp : strL [UInt8.ofNat n.toNat] = p) (w : World) : Calls Try.prog 49 #[.int .i64 1, .int .u64 n] w fun e w' => e = .returned (.string p) ∧ Below w.heap.size w w' := by
  have := rPut_calls n 1 (by omega) h0 (by omega) w
  have e : putL n 1 = [UInt8.ofNat n.toNat] := by
    have hf : fitsB n 1 false = true := by simp [fitsB, widthB, topZ]; omega
    rw [show ((1 : Nat) : Int) = 1 from rfl] at *
    rw [putL]
    rw [show ((1 : Nat) : Int) = 1 from rfl, if_pos hf]
    simp [leL, byteZ]
    congr 2
    omega
  rw [e, hp] at this
  exact this
theorem rFEncode_no (A : Option Addr) (c : Nat) (fs : List Fd) (hr : rightF fs = false) (w : World) (hA : Rd w A (cellsF fs)) (hl : fs.length ≤ 9223372036854775807) (hs : ∀ f ∈ fs, f.s.size ≤ 9223372036854775807) :
    Calls Try.prog 32 #[.slice A fs.length c] w fun e w' => e = .returned (.tuple #[.string ⟨#[]⟩, .int .i64 60]) ∧ Below w.heap.size w w' := by
  have HR := Lib.hid hr
  clear hr
  go_enter Try.func32, Try.ntmps32
  go_wp2_with (go_at_call 16; refine (rFRight_is _ _ _ _ HR.out _ hA hl hs).mono ?_; rintro e w1 ⟨rfl, hb1⟩)
  go_ret2
  exact ⟨rfl, hb1⟩
set_option maxHeartbeats 2000000 in
theorem rFEncode_yes (A : Option Addr) (c : Nat) (fs : List Fd) (hr : rightF fs = true) (w : World) (hA : Rd w A (cellsF fs)) (hl : fs.length ≤ 9223372036854775807) (hs : ∀ f ∈ fs, f.s.size ≤ 9223372036854775807) :
    Calls Try.prog 32 #[.slice A fs.length c] w fun e w' => e = .returned (.tuple #[.string (strL (encFL fs)), .int .i64 0]) ∧ Below w.heap.size w w' := by
  obtain ⟨hmay, h16⟩ := rightF_may hr
  have hnm := fun f hf => name_size (rightF_name hr (f := f) hf)
  have HR := Lib.hid hr
  have HP0 : Hid (strL [UInt8.ofNat ((fs.length : Nat) : Int).toNat] = strL (partF fs 0)) := Lib.hid (by simp [partF])
  clear hr
  go_enter Try.func32, Try.ntmps32
  go_wp2_with (first
    | (go_at_call 16; refine (rFRight_is _ _ _ _ HR.out _ hA hl hs).mono ?_; rintro e w1 ⟨rfl, hb1⟩)
    | (go_at_call 49; refine (rPut1_is (fs.length : Int) (by omega) (by omega) _ HP0.out _).mono ?_; rintro e w2 ⟨rfl, hb2⟩; have HB0 := hb1.trans (hb2.mono hb1.size)))
  go_loopw [4, 5] (fun v i wr => ∃ k : Nat, k ≤ fs.length ∧ i = .int .i64 k ∧ v = .string (strL (partF fs k)) ∧ Below w.heap.size w wr) (fun _ i _ => fs.length - (intOf i).toNat)
  case atStart => exact ⟨0, by omega, rfl, rfl, HB0⟩
  case round =>
    obtain ⟨k, hk, rfl, rfl, HB⟩ := hrel
    clear HB0 hb1 hb2
    have hAr := hA.below HB
    by_cases hlt : k < fs.length
    · obtain ⟨f, hf⟩ : ∃ f, fs[k]? = some f := ⟨_, List.getElem?_eq_getElem hlt⟩
      obtain ⟨ad, rfl, c0, c1, c2⟩ := hAr.fld hf
      have hfm := List.mem_of_getElem? hf
      obtain ⟨n1, n2⟩ := hnm f hfm
      obtain ⟨m1, m2, m3, m4⟩ := may_small (hmay f hfm)
      have hsucc := partF_succ hf
      have hpl : (partF fs k).length ≤ 400 := by
        have := flat_length (fs.take k) (fun g hg => (hnm g (List.mem_of_mem_take hg)).2)
        rw [List.length_take] at this
        simp only [partF, List.length_cons]; omega
      obtain ⟨acc, hacc⟩ : ∃ a, strL (partF fs k) = a := ⟨_, rfl⟩
      have hal : acc.size ≤ 400 := by rw [← hacc, strL_size]; exact hpl
      obtain ⟨p1, hp1⟩ : ∃ p, strL [UInt8.ofNat ((f.s.size : Nat) : Int).toNat] = p := ⟨_, rfl⟩
      obtain ⟨p2, hp2⟩ : ∃ p, strL [UInt8.ofNat f.k.toNat] = p := ⟨_, rfl⟩
      obtain ⟨p3, hp3⟩ : ∃ p, strL [UInt8.ofNat f.l.toNat] = p := ⟨_, rfl⟩
      have l1 : p1.size = 1 := by rw [← hp1, strL_size]; rfl
      have l2 : p2.size = 1 := by rw [← hp2, strL_size]; rfl
      have l3 : p3.size = 1 := by rw [← hp3, strL_size]; rfl
      have hend : acc ++ p1 ++ f.s ++ p2 ++ p3 = strL (partF fs (k + 1)) := by
        rw [hsucc, ← hacc, ← hp1, ← hp2, ← hp3]
        conv => lhs; rw [← strL_bl f.s]
        rw [strL_append, strL_append, strL_append, strL_append]
        congr 1
        simp [rowF, bl_strL, strL_bl]
      have z1 : ¬ 9223372036854775807 < acc.size + p1.size := by omega
      have z2 : ¬ 9223372036854775807 < acc.size + p1.size + f.s.size := by omega
      have z3 : ¬ 9223372036854775807 < acc.size + p1.size + f.s.size + p2.size := by omega
      have z4 : ¬ 9223372036854775807 < acc.size + p1.size + f.s.size + p2.size + p3.size := by omega
      rw [hacc]
      have b1 : (0 : Int) ≤ (f.s.size : Int) := by omega
      have b2 : (f.s.size : Int) < 256 := by omega
      have b4 : f.k < 256 := by omega
      have b6 : f.l < 256 := by omega
      have w1 : IntKind.u64.wrap (f.s.size : Int) = (f.s.size : Int) := IntWalk.u64_in _ (by omega)
      have w2 : IntKind.u64.wrap f.k = f.k := IntWalk.u64_in _ (by omega)
      have w3 : IntKind.u64.wrap f.l = f.l := IntWalk.u64_in _ (by omega)
      have P1 := Lib.hid hp1
      have P2 := Lib.hid hp2
      have P3 := Lib.hid hp3
      have HE := Lib.hid hend
      have hi0 : (0 : Int) ≤ (k : Int) := by omega
      have hi2 : (k : Int) < (fs.length : Int) := by omega
      clear hp1 hp2 hp3 hend hacc hsucc l1 l2 l3 hf hA hAr hs hfm hnm
      go_wp2
      refine RW.start (fun w' => Below w.heap.size w w' ∧ w'.cell? (ad.add (k * 3)) = some (.string f.s) ∧ w'.cell? ⟨(ad.add (k * 3)).block, (ad.add (k * 3)).off + (0 + 1), none⟩ = some (.int .i64 f.k) ∧ w'.cell? ⟨(ad.add (k * 3)).block, (ad.add (k * 3)).off + (1 + 1), none⟩ = some (.int .i64 f.l)) (by kernel_rfl) (by kernel_rfl) ⟨HB.drew, c0, c1, c2⟩ ?_
      clear HB c0 c1 c2
      repeat (first
        | (refine' RW.val (by rfl) ?_ ?_; rotate_left; (focus (intro w' hS; obtain ⟨HB, c0, c1, c2⟩ := hS; go_simp; rfl)); simp only [Act.put, List.setIfInBounds_toArray, List.set_cons_zero, List.set_cons_succ])
        | (refine RW.off (by rfl) ?_; simp only [Act.put, List.setIfInBounds_toArray, List.set_cons_zero, List.set_cons_succ])
        | (refine' RW.call (by rfl) ?_ ?_ ?_
           rotate_left 3
           (focus (intro w' hS; obtain ⟨HB, c0, c1, c2⟩ := hS; go_simp; exact ⟨rfl, rfl⟩))
           (focus
             intro w' hS
             obtain ⟨HB, c0, c1, c2⟩ := hS
             first
               | ((with_reducible refine (rPut1_is (f.s.size : Int) b1 b2 _ P1.out _).mono ?_); rintro e w1 ⟨rfl, hb⟩; exact ⟨rfl, ⟨(below_seq HB hb), (cell_below (B := 0) hb c0), (cell_below (B := 0) hb c1), (cell_below (B := 0) hb c2)⟩⟩)
               | ((with_reducible refine (rPut1_is f.k m1 b4 _ P2.out _).mono ?_); rintro e w1 ⟨rfl, hb⟩; exact ⟨rfl, ⟨(below_seq HB hb), (cell_below (B := 0) hb c0), (cell_below (B := 0) hb c1), (cell_below (B := 0) hb c2)⟩⟩)
               | ((with_reducible refine (rPut1_is f.l m3 b6 _ P3.out _).mono ?_); rintro e w1 ⟨rfl, hb⟩; exact ⟨rfl, ⟨(below_seq HB hb), (cell_below (B := 0) hb c0), (cell_below (B := 0) hb c1), (cell_below (B := 0) hb c2)⟩⟩))
           simp only [Act.put, List.setIfInBounds_toArray, List.set_cons_zero, List.set_cons_succ]))
      refine RW.done (fun w' hS => ?_)
      obtain ⟨HB, c0, c1, c2⟩ := hS
      clear w1 w2 w3
      go_wp2
      go_roundw
      case rel => exact ⟨k + 1, by omega, by go_num, by rw [HE.out], HB⟩
      case measure => simp [intOf]; omega
    · obtain rfl : k = fs.length := by omega
      have e : partF fs fs.length = encFL fs := by rw [partF, List.take_length]; rfl
      rw [e]
      clear hA hAr e
      go_wp2
      go_ret2
      exact ⟨rfl, HB⟩
def wrS (fs : List Fd) : ByteArray := strL (wrL fs)
theorem rFEncode_calls (A : Option Addr) (c : Nat) (fs : List Fd) (w : World) (hA : Rd w A (cellsF fs)) (hl : fs.length ≤ 9223372036854775807) (hs : ∀ f ∈ fs, f.s.size ≤ 9223372036854775807) :
    Calls Try.prog 32 #[.slice A fs.length c] w fun e w' => e = .returned (.tuple #[.string (strL (wrL fs)), .int .i64 (wrE fs)]) ∧ Below w.heap.size w w' := by
  cases hr : rightF fs
  · have e1 : wrL fs = [] := by simp [wrL, hr]
    have e2 : wrE fs = 60 := by simp [wrE, hr]
    rw [e1, e2]
    exact rFEncode_no A c fs hr w hA hl hs
  · have e1 : wrL fs = encFL fs := by simp [wrL, hr]
    have e2 : wrE fs = 0 := by simp [wrE, hr]
    rw [e1, e2]
    exact rFEncode_yes A c fs hr w hA hl hs
instance : DecidableEq Fd := fun a b => decidable_of_iff (a.s = b.s ∧ a.k = b.k ∧ a.l = b.l) (by cases a; cases b; simp)
def sameFB (a b : List Fd) : Bool := decide (a = b)
theorem toList_iff (a b : ByteArray) : a.toList = b.toList ↔ a = b := by
  constructor
  · intro h
    simp only [ByteArray.toList_eq] at h
    have : a.data = b.data := Array.toList_inj.1 h
    cases a; cases b; simp_all
  · intro h; rw [h]
theorem fd_ways (x y : Fd) : (¬ x = y ∧ ¬ x.s.toList = y.s.toList) ∨ (¬ x = y ∧ x.s.toList = y.s.toList ∧ ¬ x.k = y.k) ∨ (¬ x = y ∧ x.s.toList = y.s.toList ∧ x.k = y.k ∧ ¬ x.l = y.l) ∨ (x = y ∧ x.s.toList = y.s.toList ∧ x.k = y.k ∧ x.l = y.l) := by
  simp only [toList_iff]
  have e : x = y ↔ x.s = y.s ∧ x.k = y.k ∧ x.l = y.l := by cases x; cases y; simp
  rw [e]
  by_cases h1 : x.s = y.s <;> by_cases h2 : x.k = y.k <;> by_cases h3 : x.l = y.l <;> simp [h1, h2, h3]
set_option maxHeartbeats 4000000 in
theorem rSame_calls (A B : Option Addr) (c d : Nat) (a b : List Fd) (w : World) (hA : Rd w A (cellsF a)) (hB : Rd w B (cellsF b)) (ha : a.length ≤ 9223372036854775807) (hb : b.length ≤ 9223372036854775807) :
    Calls Try.prog 35 #[.slice A a.length c, .slice B b.length d] w fun e w' => e = .returned (.bool (sameFB a b)) ∧ Below w.heap.size w w' := by
  by_cases hlen : a.length = b.length
  · have hz : ((a.length : Int) != (b.length : Int)) = false := by rw [hlen]; simp
    obtain ⟨r, hr⟩ : ∃ r, sameFB a b = r := ⟨_, rfl⟩
    rw [hr]
    have HR := Lib.hid hr
    have HL := Lib.hid hlen
    clear hr
    obtain ⟨m, hm⟩ : ∃ m, b.length = m := ⟨_, rfl⟩
    rw [hm] at hz hlen ⊢
    have HM := Lib.hid hm
    clear hm hlen hb
    go_enter Try.func35, Try.ntmps35
    go_wp2
    go_loopw [5] (fun i wr => ∃ k : Nat, k ≤ a.length ∧ i = .int .i64 k ∧ Below w.heap.size w wr ∧ Hid (a.take k = b.take k)) (fun i _ => a.length - (intOf i).toNat)
    case atStart => exact ⟨0, by omega, rfl, Below.refl _ _, Lib.hid rfl⟩
    case round =>
      obtain ⟨k, hk, rfl, HB, hall⟩ := hrel
      have hAr := hA.below HB
      have hBr := hB.below HB
      clear hA hB
      by_cases hlt : k < a.length
      · have hlb : k < m := by have := HL.out; have := HM.out; omega
        obtain ⟨x, hx⟩ : ∃ x, a[k]? = some x := ⟨_, List.getElem?_eq_getElem hlt⟩
        obtain ⟨y, hy⟩ : ∃ y, b[k]? = some y := ⟨_, List.getElem?_eq_getElem (by rw [HM.out]; exact hlb)⟩
        obtain ⟨ad, rfl, c0, c1, c2⟩ := hAr.fld hx
        obtain ⟨bd, rfl, d0, d1, d2⟩ := hBr.fld hy
        have HX := Lib.hid hx
        have HY := Lib.hid hy
        clear hx hy hAr hBr
        have hi0 : (0 : Int) ≤ (k : Int) := by omega
        have hi1 : (k : Int) < (a.length : Int) := by omega
        have hi2 : (k : Int) < (m : Int) := by omega
        go_wp2
        rcases fd_ways x y with ⟨hne, h1⟩ | ⟨hne, h1, h2⟩ | ⟨hne, h1, h2, h3⟩ | ⟨he, h1, h2, h3⟩
        · obtain rfl : r = false := by
            rw [← HR.out]; simp [sameFB]; intro e
            have h1 := HX.out; rw [e, HY.out] at h1; exact hne (Option.some.inj h1).symm
          clear hne hall
          refine RW.start (fun w' => Below w.heap.size w w' ∧ (w'.cell? (ad.add (k * 3)) = some (.string x.s) ∧ w'.cell? ⟨(ad.add (k * 3)).block, (ad.add (k * 3)).off + (0 + 1), none⟩ = some (.int .i64 x.k) ∧ w'.cell? ⟨(ad.add (k * 3)).block, (ad.add (k * 3)).off + (1 + 1), none⟩ = some (.int .i64 x.l)) ∧ (w'.cell? (bd.add (k * 3)) = some (.string y.s) ∧ w'.cell? ⟨(bd.add (k * 3)).block, (bd.add (k * 3)).off + (0 + 1), none⟩ = some (.int .i64 y.k) ∧ w'.cell? ⟨(bd.add (k * 3)).block, (bd.add (k * 3)).off + (1 + 1), none⟩ = some (.int .i64 y.l))) (by kernel_rfl) (by kernel_rfl) ⟨HB.drew, ⟨c0, c1, c2⟩, d0, d1, d2⟩ ?_
          clear HB c0 c1 c2 d0 d1 d2
          repeat (first
            | (refine' RW.val (by rfl) ?_ ?_; rotate_left; (focus (intro w' hS; obtain ⟨HB, ⟨c0, c1, c2⟩, d0, d1, d2⟩ := hS; go_simp; rfl)); simp only [Act.put, List.setIfInBounds_toArray, List.set_cons_zero, List.set_cons_succ])
            | (refine RW.off (by rfl) ?_; simp only [Act.put, List.setIfInBounds_toArray, List.set_cons_zero, List.set_cons_succ]))
          refine RW.done (fun w' hS => ?_)
          obtain ⟨HB, ⟨c0, c1, c2⟩, d0, d1, d2⟩ := hS
          go_wp2
          go_ret
          exact ⟨rfl, HB⟩
        · obtain rfl : r = false := by
            rw [← HR.out]; simp [sameFB]; intro e
            have h1 := HX.out; rw [e, HY.out] at h1; exact hne (Option.some.inj h1).symm
          clear hne hall
          refine RW.start (fun w' => Below w.heap.size w w' ∧ (w'.cell? (ad.add (k * 3)) = some (.string x.s) ∧ w'.cell? ⟨(ad.add (k * 3)).block, (ad.add (k * 3)).off + (0 + 1), none⟩ = some (.int .i64 x.k) ∧ w'.cell? ⟨(ad.add (k * 3)).block, (ad.add (k * 3)).off + (1 + 1), none⟩ = some (.int .i64 x.l)) ∧ (w'.cell? (bd.add (k * 3)) = some (.string y.s) ∧ w'.cell? ⟨(bd.add (k * 3)).block, (bd.add (k * 3)).off + (0 + 1), none⟩ = some (.int .i64 y.k) ∧ w'.cell? ⟨(bd.add (k * 3)).block, (bd.add (k * 3)).off + (1 + 1), none⟩ = some (.int .i64 y.l))) (by kernel_rfl) (by kernel_rfl) ⟨HB.drew, ⟨c0, c1, c2⟩, d0, d1, d2⟩ ?_
          clear HB c0 c1 c2 d0 d1 d2
          repeat (first
            | (refine' RW.val (by rfl) ?_ ?_; rotate_left; (focus (intro w' hS; obtain ⟨HB, ⟨c0, c1, c2⟩, d0, d1, d2⟩ := hS; go_simp; rfl)); simp only [Act.put, List.setIfInBounds_toArray, List.set_cons_zero, List.set_cons_succ])
            | (refine RW.off (by rfl) ?_; simp only [Act.put, List.setIfInBounds_toArray, List.set_cons_zero, List.set_cons_succ]))
          refine RW.done (fun w' hS => ?_)
          obtain ⟨HB, ⟨c0, c1, c2⟩, d0, d1, d2⟩ := hS
          go_wp2
          go_ret
          exact ⟨rfl, HB⟩
        · obtain rfl : r = false := by
            rw [← HR.out]; simp [sameFB]; intro e
            have h1 := HX.out; rw [e, HY.out] at h1; exact hne (Option.some.inj h1).symm
          clear hne hall
          refine RW.start (fun w' => Below w.heap.size w w' ∧ (w'.cell? (ad.add (k * 3)) = some (.string x.s) ∧ w'.cell? ⟨(ad.add (k * 3)).block, (ad.add (k * 3)).off + (0 + 1), none⟩ = some (.int .i64 x.k) ∧ w'.cell? ⟨(ad.add (k * 3)).block, (ad.add (k * 3)).off + (1 + 1), none⟩ = some (.int .i64 x.l)) ∧ (w'.cell? (bd.add (k * 3)) = some (.string y.s) ∧ w'.cell? ⟨(bd.add (k * 3)).block, (bd.add (k * 3)).off + (0 + 1), none⟩ = some (.int .i64 y.k) ∧ w'.cell? ⟨(bd.add (k * 3)).block, (bd.add (k * 3)).off + (1 + 1), none⟩ = some (.int .i64 y.l))) (by kernel_rfl) (by kernel_rfl) ⟨HB.drew, ⟨c0, c1, c2⟩, d0, d1, d2⟩ ?_
          clear HB c0 c1 c2 d0 d1 d2
          repeat (first
            | (refine' RW.val (by rfl) ?_ ?_; rotate_left; (focus (intro w' hS; obtain ⟨HB, ⟨c0, c1, c2⟩, d0, d1, d2⟩ := hS; go_simp; rfl)); simp only [Act.put, List.setIfInBounds_toArray, List.set_cons_zero, List.set_cons_succ])
            | (refine RW.off (by rfl) ?_; simp only [Act.put, List.setIfInBounds_toArray, List.set_cons_zero, List.set_cons_succ]))
          refine RW.done (fun w' hS => ?_)
          obtain ⟨HB, ⟨c0, c1, c2⟩, d0, d1, d2⟩ := hS
          go_wp2
          go_ret
          exact ⟨rfl, HB⟩
        · have hall2 : Hid (a.take (k + 1) = b.take (k + 1)) := Lib.hid (by rw [List.take_add_one, List.take_add_one, hall.out, HX.out, HY.out, he])
          clear he hall
          refine RW.start (fun w' => Below w.heap.size w w' ∧ (w'.cell? (ad.add (k * 3)) = some (.string x.s) ∧ w'.cell? ⟨(ad.add (k * 3)).block, (ad.add (k * 3)).off + (0 + 1), none⟩ = some (.int .i64 x.k) ∧ w'.cell? ⟨(ad.add (k * 3)).block, (ad.add (k * 3)).off + (1 + 1), none⟩ = some (.int .i64 x.l)) ∧ (w'.cell? (bd.add (k * 3)) = some (.string y.s) ∧ w'.cell? ⟨(bd.add (k * 3)).block, (bd.add (k * 3)).off + (0 + 1), none⟩ = some (.int .i64 y.k) ∧ w'.cell? ⟨(bd.add (k * 3)).block, (bd.add (k * 3)).off + (1 + 1), none⟩ = some (.int .i64 y.l))) (by kernel_rfl) (by kernel_rfl) ⟨HB.drew, ⟨c0, c1, c2⟩, d0, d1, d2⟩ ?_
          clear HB c0 c1 c2 d0 d1 d2
          repeat (first
            | (refine' RW.val (by rfl) ?_ ?_; rotate_left; (focus (intro w' hS; obtain ⟨HB, ⟨c0, c1, c2⟩, d0, d1, d2⟩ := hS; go_simp; rfl)); simp only [Act.put, List.setIfInBounds_toArray, List.set_cons_zero, List.set_cons_succ])
            | (refine RW.off (by rfl) ?_; simp only [Act.put, List.setIfInBounds_toArray, List.set_cons_zero, List.set_cons_succ]))
          refine RW.done (fun w' hS => ?_)
          obtain ⟨HB, ⟨c0, c1, c2⟩, d0, d1, d2⟩ := hS
          go_wp2
          go_roundw
          case rel => exact ⟨k + 1, by omega, by go_num, HB, hall2⟩
          case measure => simp [intOf]; omega
      · obtain rfl : k = a.length := by omega
        obtain rfl : r = true := by
          rw [← HR.out]; have h := hall.out
          rw [List.take_length, HL.out, List.take_length] at h
          simpa [sameFB] using h
        clear hAr hBr
        go_wp2
        go_ret
        exact ⟨rfl, HB⟩
  · have hz : ((a.length : Int) != (b.length : Int)) = true := by simp; omega
    have hr : sameFB a b = false := by simp [sameFB]; intro e; exact hlen (by rw [e])
    rw [hr]
    clear hr hlen
    go_enter Try.func35, Try.ntmps35
    go_wp2
    go_ret
    exact ⟨rfl, Below.refl _ _⟩
end Go.Proofs.Ytepfabijmhhhcaa
