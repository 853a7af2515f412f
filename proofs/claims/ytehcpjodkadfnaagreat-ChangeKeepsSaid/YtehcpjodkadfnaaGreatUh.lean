/- Merged out of: Km Ge Gf. -/
import Derived.Test.YtehcpjodkadfnaaGreatUg
import Derived.Test.YtehcpjodkadfnaaGreatUc
import Derived.RangeFuncNested
import Derived.RangeFuncBox
import Derived.RangeFuncLeaves
import Derived.RangeFuncCalls
import Derived.Shelf.Abstract
import Derived.OwnWalkIn
import Derived.TacticsInMore
import Derived.LoopNIn
import Derived.LoopIn
import Derived.Maps.AppendAt
/- Layer 5's reference, third part: values of bytes. -/
set_option linter.unusedSimpArgs false
set_option linter.unusedVariables false
set_option maxRecDepth 100000
namespace Go.Proofs.YtehcpjodkadfnaaGreat
open Go.RowKit

theorem byteZ_nat (n i : Nat) : byteZ (n : Int) i = ((n / 2 ^ (8 * i) % 256 : Nat) : Int) := by
  unfold byteZ
  rw [Int.natCast_emod, Int.natCast_ediv, Int.natCast_pow]
  rfl
theorem byteZ_append (a b : List UInt8) (i : Nat) (hi : i < a.length) : byteZ (numL (a ++ b)) i = byteZ (numL a) i := by
  unfold numL
  rw [byteZ_nat, byteZ_nat, numN_append]
  obtain ⟨d, hd⟩ : ∃ d, 8 * a.length = 8 * i + (8 + d) := ⟨8 * (a.length - i - 1), by omega⟩
  rw [hd, Nat.pow_add, Nat.mul_assoc, Nat.add_mul_div_left _ _ (Nat.two_pow_pos _), Nat.pow_add, Nat.mul_assoc, show (2 : Nat) ^ 8 = 256 from rfl, Nat.add_mul_mod_self_left]
theorem byteZ_last (a : List UInt8) (x : UInt8) : byteZ (numL (a ++ [x])) a.length = x.toNat := by
  unfold numL
  rw [byteZ_nat, numN_append]
  have h1 := numN_lt a
  have h2 := x.toNat_lt
  rw [Nat.add_mul_div_left _ _ (Nat.two_pow_pos _), Nat.div_eq_of_lt h1]
  simp only [numN]
  omega
theorem leL_num (l : List UInt8) : leL (numL l) l.length = l := by
  apply List.ext_getElem (leL_length _ _)
  intro i h1 h2
  have hl : l = (l.take i ++ [l[i]]) ++ l.drop (i + 1) := by simp
  have hti : (l.take i).length = i := by simp; omega
  simp only [leL, List.getElem_map, List.getElem_range]
  have e : byteZ (numL l) i = l[i].toNat := by
    conv => lhs; rw [hl]
    rw [byteZ_append _ _ _ (by simp; omega)]
    have := byteZ_last (l.take i) l[i]
    rwa [hti] at this
  rw [e]; simp
theorem byteZ_sign (n : Int) (w i : Nat) (hw : widthB w = true) (hi : i < w) (h0 : 0 ≤ n) (h1 : n < 18446744073709551616) : byteZ (signZ n w) i = byteZ n i := by
  have hc := width_cases hw
  rcases (by omega : w = 1 ∨ w = 2 ∨ w = 4 ∨ w = 8) with rfl | rfl | rfl | rfl
  · obtain rfl : i = 0 := by omega
    rw [show ((1 : Nat) : Int) = 1 from rfl, signZ_arith1 n h0 h1]
    simp [byteZ]; split <;> omega
  · rw [show ((2 : Nat) : Int) = 2 from rfl, signZ_arith2 n h0 h1]
    rcases (by omega : i = 0 ∨ i = 1) with rfl | rfl <;> simp [byteZ] <;> split <;> omega
  · rw [show ((4 : Nat) : Int) = 4 from rfl, signZ_arith4 n h0 h1]
    rcases (by omega : i = 0 ∨ i = 1 ∨ i = 2 ∨ i = 3) with rfl | rfl | rfl | rfl <;> simp [byteZ] <;> split <;> omega
  · rw [show ((8 : Nat) : Int) = 8 from rfl, signZ_8 n h0 h1]
theorem leL_sign (n : Int) (w : Nat) (hw : widthB w = true) (h0 : 0 ≤ n) (h1 : n < 18446744073709551616) : leL (signZ n w) w = leL n w := by
  apply List.ext_getElem (by simp [leL_length])
  intro i h2 h3
  simp only [leL, List.getElem_map, List.getElem_range]
  rw [byteZ_sign n w i hw (by simpa [leL_length] using h2) h0 h1]

/-- the bits that the reference reads -/
def rdecZ (l : List UInt8) (k : Int) : Int := if k = 12 then 0 else if btw 5 k 8 = true then signZ (getZ l) l.length else getZ l
theorem rdecZ_bd (l : List UInt8) (k : Int) : 0 ≤ rdecZ l k ∧ rdecZ l k < 18446744073709551616 := by
  have := getZ_bd l
  unfold rdecZ
  split
  · omega
  · split
    · exact signZ_bd _ _ this.1 this.2
    · exact this
theorem rdec_ok (l : List UInt8) (k long : Int) : (rightB k (rdecZ l k) (decT l k) k long = true ∧ encL (rdecZ l k) (decT l k) k long = l) ↔ decB l k long = true := by
  unfold decB
  simp only [Bool.and_eq_true, decide_eq_true_eq]
  by_cases hk : k = 12
  · subst hk
    have e1 : rdecZ l 12 = 0 := by simp [rdecZ]
    have e2 : decZ l 12 long = 0 := by simp [decZ, rawZ, btw]
    have e3 : decT l 12 = strL l := by simp [decT]
    rw [e1, e2, e3]
    constructor
    · rintro ⟨h, _⟩
      have hm := right_may h
      refine ⟨?_, h⟩
      rw [long_12 hm.1]
      have := hm.2.2.1
      rw [if_pos rfl, strL_size] at this
      exact this
    · rintro ⟨_, h⟩
      exact ⟨h, by rw [encL, if_pos rfl, bl_strL]⟩
  · have e3 : decT l k = ⟨#[]⟩ := by simp [decT, hk]
    rw [e3]
    by_cases hl : (l.length : Int) = longZ k long
    · have e2 : decZ l k long = rdecZ l k := by
        rw [decZ, rdecZ, if_neg hk]
        have : rawZ l k long = getZ l := by rw [rawZ, if_neg hk, getZ]; simp [hl]
        rw [this]
      rw [e2]
      constructor
      · rintro ⟨h, _⟩; exact ⟨hl, h⟩
      · rintro ⟨_, h⟩
        refine ⟨h, ?_⟩
        have hm := (right_may h).1
        have hlc := long_cases hm hk
        have hwb : widthB l.length = true := by rw [hl]; simp [widthB]; omega
        have hg := getZ_bd l
        have hgz : getZ l = numL l := by rw [getZ, if_pos hwb]
        rw [encL, if_neg hk, ← hl, rdecZ, if_neg hk]
        simp only [Int.toNat_natCast]
        split
        · rw [leL_sign _ _ hwb hg.1 hg.2, hgz, leL_num]
        · rw [hgz, leL_num]
    · constructor
      · rintro ⟨h, he⟩
        exfalso
        apply hl
        have hm := (right_may h).1
        have hlc := long_cases hm hk
        rw [encL, if_neg hk] at he
        have := congrArg List.length he
        rw [leL_length] at this
        omega
      · rintro ⟨h, _⟩; exact absurd h hl
theorem rdec_val {l : List UInt8} {k long : Int} (h : decB l k long = true) : decZ l k long = rdecZ l k := by
  by_cases hk : k = 12
  · subst hk; simp [rdecZ, decZ, rawZ, btw]
  · unfold decB at h
    simp only [Bool.and_eq_true, decide_eq_true_eq] at h
    rw [decZ, rdecZ, if_neg hk]
    have : rawZ l k long = getZ l := by rw [rawZ, if_neg hk, getZ]; simp [h.1]
    rw [this]

theorem rEncode_is (vk bits : Int) (tx s : ByteArray) (k l : Int) (h0 : 0 ≤ bits) (h1 : bits < 18446744073709551616) (r : ByteArray) (q : Int) (hr : encS vk bits tx k l = r) (hq : encE vk bits tx k l = q) (w : World) :
    Calls Tryz.prog 58 #[.agg #[.int .i64 vk, .int .u64 bits, .string tx], .agg #[.string s, .int .i64 k, .int .i64 l]] w fun e w' => e = .returned (.tuple #[.string r, .int .i64 q]) ∧ Below w.heap.size w w' := by
  subst hr hq; exact rEncode_calls vk bits tx s k l h0 h1 w
theorem rSign_is (n width : Int) (h0 : 0 ≤ n) (h1 : n < 18446744073709551616) (r : Int) (h : signZ n width = r) (w : World) : Calls Tryz.prog 41 #[.int .u64 n, .int .i64 width] w fun e w' => e = .returned (.int .u64 r) ∧ w = w' := h ▸ rSign_calls n width h0 h1 w
end Go.Proofs.YtehcpjodkadfnaaGreat
/- Layer 6 of the heap, fields, fifth part: which fields may be. -/
set_option linter.unusedSimpArgs false
set_option linter.unusedVariables false
set_option maxRecDepth 100000
namespace Go.Proofs.YtehcpjodkadfnaaGreat
open Go.RowKit

theorem long_zero (k l : Int) : longZ k l = 0 ↔ mayB k l = false := by
  cases hm : mayB k l
  · simp [longZ, hm]
  · simp only [Bool.true_eq_false, iff_false]
    by_cases hk : k = 12
    · subst hk
      have := btw_iff.1 (mayB_12 ▸ hm)
      rw [long_12 hm]; omega
    · have := long_cases hm hk; omega
theorem long_ge (k l : Int) : 0 ≤ longZ k l ∧ longZ k l ≤ 64 := by
  cases hm : mayB k l
  · have := (long_zero k l).2 hm; omega
  · by_cases hk : k = 12
    · subst hk
      have := btw_iff.1 (mayB_12 ▸ hm)
      rw [long_12 hm]; omega
    · have := long_cases hm hk; omega
def okF (fs : List Fd) (i : Nat) (f : Fd) : Bool := nameB f.s && mayB f.k f.l && decide (findZ fs f.s = i)
/-- which fields may be -/
def rightF (fs : List Fd) : Bool := decide (∀ i, ∀ h : i < fs.length, okF fs i (fs[i]'h) = true) && decide (fs.length ≤ 16)
theorem rightF_bad {fs : List Fd} {i : Nat} {f : Fd} (hi : fs[i]? = some f) (h : okF fs i f = false) : rightF fs = false := by
  rw [rightF, decide_eq_false, Bool.false_and]
  intro ha
  obtain ⟨hi1, hi2⟩ := List.getElem?_eq_some_iff.1 hi
  have := ha i hi1
  rw [hi2, h] at this; cases this
theorem rightF_end {fs : List Fd} (h : ∀ i f, i < fs.length → fs[i]? = some f → okF fs i f = true) : rightF fs = decide (fs.length ≤ 16) := by
  rw [rightF, decide_eq_true (fun i hi => h i _ hi (List.getElem?_eq_getElem hi)), Bool.true_and]
theorem findZ_le (fs : List Fd) (nm : ByteArray) (k : Nat) (f : Fd) (hk : fs[k]? = some f) (h : f.s = nm) : 0 ≤ findZ fs nm ∧ findZ fs nm ≤ k := by
  induction fs generalizing k with
  | nil => simp at hk
  | cons g r ih =>
    rw [findZ]
    split
    · omega
    · cases k with
      | zero => simp at hk; subst hk; contradiction
      | succ k =>
        have := ih k (by simpa using hk)
        split <;> omega
theorem Name_is (s : ByteArray) (r : Bool) (h : nameB s = r) (w : World) : Calls Tryz.prog 44 #[.string s] w fun e w' => e = .returned (.bool r) ∧ Below w.heap.size w w' := h ▸ Name_calls s w
theorem rName_is (s : ByteArray) (hs : s.size ≤ 9223372036854775807) (r : Bool) (h : nameB s = r) (w : World) : Calls Tryz.prog 14 #[.string s] w fun e w' => e = .returned (.bool r) ∧ Below w.heap.size w w' := h ▸ rName_calls s hs w
theorem Find_is (A : Option Addr) (c : Nat) (fs : List Fd) (nm : ByteArray) (r : Int) (h : findZ fs nm = r) (w : World) (hA : Rd w A (cellsF fs)) (hl : fs.length ≤ 9223372036854775807) :
    Calls Tryz.prog 45 #[.slice A fs.length c, .string nm] w fun e w' => e = .returned (.int .i64 r) ∧ Below w.heap.size w w' := h ▸ Find_calls A c fs nm w hA hl
theorem rFind_is (A : Option Addr) (c : Nat) (fs : List Fd) (nm : ByteArray) (r : Int) (h : findZ fs nm = r) (w : World) (hA : Rd w A (cellsF fs)) (hl : fs.length ≤ 9223372036854775807) :
    Calls Tryz.prog 16 #[.slice A fs.length c, .string nm] w fun e w' => e = .returned (.int .i64 r) ∧ w = w' := h ▸ rFind_calls A c fs nm w hA hl
/-- a field that is read in a row -/
theorem Rd.fld {w : World} {A : Option Addr} {fs : List Fd} (h : Rd w A (cellsF fs)) {k : Nat} {f : Fd} (hf : fs[k]? = some f) : ∃ ad, A = some ad ∧ w.cell? (ad.add (k * 3)) = some (.string f.s) ∧ w.cell? ⟨(ad.add (k * 3)).block, (ad.add (k * 3)).off + (0 + 1), none⟩ = some (.int .i64 f.k) ∧ w.cell? ⟨(ad.add (k * 3)).block, (ad.add (k * 3)).off + (1 + 1), none⟩ = some (.int .i64 f.l) := by
  obtain ⟨g0, g1, g2⟩ := cellsF_get fs k f hf
  obtain ⟨ad, rfl, h0⟩ := h.at g0
  obtain ⟨_, e1, h1⟩ := h.at g1
  obtain ⟨_, e2, h2⟩ := h.at g2
  cases e1; cases e2
  rw [add_part _ _ 0] at h1
  rw [add_part _ _ 1] at h2
  exact ⟨ad, rfl, h0, h1, h2⟩
theorem okF_split (fs : List Fd) (k : Nat) (f : Fd) : okF fs k f = false ∧ nameB f.s = false ∨ okF fs k f = false ∧ nameB f.s = true ∧ mayB f.k f.l = false ∨ okF fs k f = false ∧ nameB f.s = true ∧ mayB f.k f.l = true ∧ ¬ findZ fs f.s = k ∨ okF fs k f = true ∧ nameB f.s = true ∧ mayB f.k f.l = true ∧ findZ fs f.s = k := by
  unfold okF
  cases nameB f.s <;> cases mayB f.k f.l <;> by_cases h : findZ fs f.s = k <;> simp [h]
set_option maxHeartbeats 1600000 in
theorem FRight_calls (A : Option Addr) (c : Nat) (fs : List Fd) (w : World) (hA : Rd w A (cellsF fs)) (hl : fs.length ≤ 9223372036854775807) :
    Calls Tryz.prog 21 #[.slice A fs.length c] w fun e w' => e = .returned (.bool (rightF fs)) ∧ Below w.heap.size w w' := by
  obtain ⟨r, hr⟩ : ∃ r, rightF fs = r := ⟨_, rfl⟩
  rw [hr]
  have HR := Lib.hid hr
  clear hr
  go_enter Tryz.func21, Tryz.ntmps21
  go_wp2
  go_loopw [3, 4, 7] (fun _ _ i wr => ∃ k : Nat, k ≤ fs.length ∧ i = .int .i64 k ∧ Below w.heap.size w wr ∧ Hid (∀ i f, i < k → fs[i]? = some f → okF fs i f = true)) (fun _ _ i _ => fs.length - (intOf i).toNat)
  case atStart => exact ⟨0, by omega, rfl, Below.refl _ _, Lib.hid fun i f h => by omega⟩
  case round =>
    obtain ⟨k, hk, rfl, HB, hall⟩ := hrel
    have hAr := hA.below HB
    by_cases hlt : k < fs.length
    · obtain ⟨f, hf⟩ : ∃ f, fs[k]? = some f := ⟨_, List.getElem?_eq_getElem hlt⟩
      obtain ⟨ad, rfl, h0, h1, h2⟩ := hAr.fld hf
      have hB1 := HB.alloc HB.size (.cells #[.string f.s, .int .i64 f.k, .int .i64 f.l] 29)
      have F0 := FBox.new wr f.s f.k f.l
      have hA1 := hAr.below (below_new (.cells #[.string f.s, .int .i64 f.k, .int .i64 f.l] 29))
      clear hA hAr
      rcases okF_split fs k f with ⟨ho, hn⟩ | ⟨ho, hn, hm⟩ | ⟨ho, hn, hm, hz⟩ | ⟨ho, hn, hm, hz⟩
      · obtain rfl : r = false := HR.out.symm.trans (rightF_bad hf ho)
        have HN := Lib.hid hn
        clear ho hn hf HR hA1
        go_wp2_with (go_at_call 44; refine (Name_is _ _ HN.out _).mono ?_; rintro e w1 ⟨rfl, hb1⟩)
        go_ret
        exact ⟨rfl, hB1.trans (hb1.mono hB1.size)⟩
      · obtain rfl : r = false := HR.out.symm.trans (rightF_bad hf ho)
        have HN := Lib.hid hn
        have HL := Lib.hid ((long_zero _ _).2 hm)
        clear ho hn hf HR hA1 hm
        go_wp2_with (first
          | (go_at_call 44; refine (Name_is _ _ HN.out _).mono ?_; rintro e w1 ⟨rfl, hb1⟩; obtain ⟨c0, c1, c2⟩ := F0.below hb1; clear F0)
          | (go_at_call 33; refine (Long_is _ _ _ _ HL.out _).mono ?_; rintro e w2 ⟨rfl, hb2⟩))
        go_ret
        exact ⟨rfl, (hB1.trans (hb1.mono hB1.size)).trans (hb2.mono (Nat.le_trans hB1.size hb1.size))⟩
      · obtain rfl : r = false := HR.out.symm.trans (rightF_bad hf ho)
        have HN := Lib.hid hn
        obtain ⟨z, hz2⟩ : ∃ z, findZ fs f.s = z := ⟨_, rfl⟩
        obtain ⟨y, hy2⟩ : ∃ y, longZ f.k f.l = y := ⟨_, rfl⟩
        have ht : (z != (k : Int)) = true := by rw [← hz2]; simpa using hz
        have hy : (y == 0) = false := by
          rw [← hy2, beq_eq_false_iff_ne]
          intro h; rw [(long_zero _ _).1 h] at hm; cases hm
        have HL := Lib.hid hy2
        have HZ := Lib.hid hz2
        clear ho hn hf HR hm hz hz2 hy2
        go_wp2_with (first
          | (go_at_call 44; refine (Name_is _ _ HN.out _).mono ?_; rintro e w1 ⟨rfl, hb1⟩; obtain ⟨c0, c1, c2⟩ := F0.below hb1; clear F0)
          | (go_at_call 33; refine (Long_is _ _ _ _ HL.out _).mono ?_; rintro e w2 ⟨rfl, hb2⟩; obtain ⟨d0, d1, d2⟩ := FBox.below ⟨c0, c1, c2⟩ hb2; clear c0 c1 c2)
          | (go_at_call 45; refine (Find_is _ _ _ _ _ HZ.out _ ((hA1.below hb1).below hb2) hl).mono ?_; rintro e w3 ⟨rfl, hb3⟩))
        go_ret
        exact ⟨rfl, ((hB1.trans (hb1.mono hB1.size)).trans (hb2.mono (Nat.le_trans hB1.size hb1.size))).trans (hb3.mono (Nat.le_trans hB1.size (Nat.le_trans hb1.size hb2.size)))⟩
      · have hall2 : Hid (∀ i f, i < k + 1 → fs[i]? = some f → okF fs i f = true) := Lib.hid fun i g hi hg => by
          rcases (by omega : i < k ∨ i = k) with h2 | rfl
          · exact hall.out i g h2 hg
          · rw [hf] at hg; cases hg; exact ho
        have HN := Lib.hid hn
        obtain ⟨z, hz2⟩ : ∃ z, findZ fs f.s = z := ⟨_, rfl⟩
        obtain ⟨y, hy2⟩ : ∃ y, longZ f.k f.l = y := ⟨_, rfl⟩
        have ht : (z != (k : Int)) = false := by rw [← hz2, hz]; simp
        have hy : (y == 0) = false := by
          rw [← hy2, beq_eq_false_iff_ne]
          intro h; rw [(long_zero _ _).1 h] at hm; cases hm
        have HL := Lib.hid hy2
        have HZ := Lib.hid hz2
        clear ho hn hf HR hm hz hz2 hy2 hall
        go_wp2_with (first
          | (go_at_call 44; refine (Name_is _ _ HN.out _).mono ?_; rintro e w1 ⟨rfl, hb1⟩; obtain ⟨c0, c1, c2⟩ := F0.below hb1; clear F0)
          | (go_at_call 33; refine (Long_is _ _ _ _ HL.out _).mono ?_; rintro e w2 ⟨rfl, hb2⟩; obtain ⟨d0, d1, d2⟩ := FBox.below ⟨c0, c1, c2⟩ hb2; clear c0 c1 c2)
          | (go_at_call 45; refine (Find_is _ _ _ _ _ HZ.out _ ((hA1.below hb1).below hb2) hl).mono ?_; rintro e w3 ⟨rfl, hb3⟩))
        go_roundw
        case rel => exact ⟨k + 1, by omega, by go_num, ((hB1.trans (hb1.mono hB1.size)).trans (hb2.mono (Nat.le_trans hB1.size hb1.size))).trans (hb3.mono (Nat.le_trans hB1.size (Nat.le_trans hb1.size hb2.size))), hall2⟩
        case measure => simp [intOf]; omega
    · obtain rfl : k = fs.length := by omega
      have hn := rightF_end hall.out
      rw [HR.out] at hn
      subst hn
      clear HR hall hAr hA
      go_wp2
      go_ret
      refine ⟨ret_bool ?_, HB⟩
      rw [Bool.eq_iff_iff]
      simp only [decide_eq_true_eq]
      constructor <;> intro h <;> omega
set_option maxHeartbeats 1600000 in
theorem rFRight_calls (A : Option Addr) (c : Nat) (fs : List Fd) (w : World) (hA : Rd w A (cellsF fs)) (hl : fs.length ≤ 9223372036854775807) (hs : ∀ f ∈ fs, f.s.size ≤ 9223372036854775807) :
    Calls Tryz.prog 5 #[.slice A fs.length c] w fun e w' => e = .returned (.bool (rightF fs)) ∧ Below w.heap.size w w' := by
  obtain ⟨r, hr⟩ : ∃ r, rightF fs = r := ⟨_, rfl⟩
  rw [hr]
  have HR := Lib.hid hr
  clear hr
  go_enter Tryz.func5, Tryz.ntmps5
  go_wp2
  go_loopw [3] (fun i wr => ∃ k : Nat, k ≤ fs.length ∧ i = .int .i64 k ∧ Below w.heap.size w wr ∧ Hid (∀ i f, i < k → fs[i]? = some f → okF fs i f = true)) (fun i _ => fs.length - (intOf i).toNat)
  case atStart => exact ⟨0, by omega, rfl, Below.refl _ _, Lib.hid fun i f h => by omega⟩
  case round =>
    obtain ⟨k, hk, rfl, HB, hall⟩ := hrel
    have hAr := hA.below HB
    by_cases hlt : k < fs.length
    · obtain ⟨f, hf⟩ : ∃ f, fs[k]? = some f := ⟨_, List.getElem?_eq_getElem hlt⟩
      have hsz := hs f (List.mem_of_getElem? hf)
      obtain ⟨ad, rfl, h0, h1, h2⟩ := hAr.fld hf
      clear hA hs
      rcases okF_split fs k f with ⟨ho, hn⟩ | ⟨ho, hn, hm⟩ | ⟨ho, hn, hm, hz⟩ | ⟨ho, hn, hm, hz⟩
      · obtain rfl : r = false := HR.out.symm.trans (rightF_bad hf ho)
        have HN := Lib.hid hn
        clear ho hn hf HR hAr
        go_wp2_with (go_at_call 14; refine (rName_is _ hsz _ HN.out _).mono ?_; rintro e w1 ⟨rfl, hb1⟩)
        go_ret
        exact ⟨rfl, HB.trans (hb1.mono HB.size)⟩
      · obtain rfl : r = false := HR.out.symm.trans (rightF_bad hf ho)
        have HN := Lib.hid hn
        have HL := Lib.hid hm
        clear ho hn hf HR hm
        go_wp2_with (first
          | (go_at_call 14; refine (rName_is _ hsz _ HN.out _).mono ?_; rintro e w1 ⟨rfl, hb1⟩; have c0 := cell_below (B := 0) hb1 h0; have c1 := cell_below (B := 0) hb1 h1; have c2 := cell_below (B := 0) hb1 h2; clear h0 h1 h2)
          | (go_at_call 15; refine (rMay_is _ _ _ _ HL.out _).mono ?_; rintro e w2 ⟨rfl, hb2⟩))
        go_ret
        exact ⟨rfl, (HB.trans (hb1.mono HB.size)).trans (hb2.mono (Nat.le_trans HB.size hb1.size))⟩
      · obtain rfl : r = false := HR.out.symm.trans (rightF_bad hf ho)
        have HN := Lib.hid hn
        have HL := Lib.hid hm
        have hle := findZ_le fs f.s k f hf rfl
        obtain ⟨z, hz2⟩ : ∃ z, findZ fs f.s = z := ⟨_, rfl⟩
        rw [hz2] at hle
        have ht : decide (z < (k : Int)) = true := by rw [hz2] at hz; simp; omega
        have HZ := Lib.hid hz2
        clear ho hn hf HR hm hz hz2
        go_wp2_with (first
          | (go_at_call 14; refine (rName_is _ hsz _ HN.out _).mono ?_; rintro e w1 ⟨rfl, hb1⟩; have c0 := cell_below (B := 0) hb1 h0; have c1 := cell_below (B := 0) hb1 h1; have c2 := cell_below (B := 0) hb1 h2; clear h0 h1 h2)
          | (go_at_call 15; refine (rMay_is _ _ _ _ HL.out _).mono ?_; rintro e w2 ⟨rfl, hb2⟩; have d0 := cell_below (B := 0) hb2 c0; clear c0 c1 c2)
          | (go_at_call 16; refine (rFind_is _ _ _ _ _ HZ.out _ ((hAr.below hb1).below hb2) hl).mono ?_; rintro e w3 ⟨rfl, rfl⟩))
        go_ret
        exact ⟨rfl, (HB.trans (hb1.mono HB.size)).trans (hb2.mono (Nat.le_trans HB.size hb1.size))⟩
      · have hall2 : Hid (∀ i f, i < k + 1 → fs[i]? = some f → okF fs i f = true) := Lib.hid fun i g hi hg => by
          rcases (by omega : i < k ∨ i = k) with h2 | rfl
          · exact hall.out i g h2 hg
          · rw [hf] at hg; cases hg; exact ho
        have HN := Lib.hid hn
        have HL := Lib.hid hm
        obtain ⟨z, hz2⟩ : ∃ z, findZ fs f.s = z := ⟨_, rfl⟩
        have ht : decide (z < (k : Int)) = false := by rw [← hz2, hz]; simp
        have HZ := Lib.hid hz2
        clear ho hn hf HR hm hz hz2 hall
        go_wp2_with (first
          | (go_at_call 14; refine (rName_is _ hsz _ HN.out _).mono ?_; rintro e w1 ⟨rfl, hb1⟩; have c0 := cell_below (B := 0) hb1 h0; have c1 := cell_below (B := 0) hb1 h1; have c2 := cell_below (B := 0) hb1 h2; clear h0 h1 h2)
          | (go_at_call 15; refine (rMay_is _ _ _ _ HL.out _).mono ?_; rintro e w2 ⟨rfl, hb2⟩; have d0 := cell_below (B := 0) hb2 c0; clear c0 c1 c2)
          | (go_at_call 16; refine (rFind_is _ _ _ _ _ HZ.out _ ((hAr.below hb1).below hb2) hl).mono ?_; rintro e w3 ⟨rfl, rfl⟩))
        go_roundw
        case rel => exact ⟨k + 1, by omega, by go_num, (HB.trans (hb1.mono HB.size)).trans (hb2.mono (Nat.le_trans HB.size hb1.size)), hall2⟩
        case measure => simp [intOf]; omega
    · obtain rfl : k = fs.length := by omega
      have hn := rightF_end hall.out
      rw [HR.out] at hn
      subst hn
      clear HR hall hAr hA
      go_wp2
      go_ret
      refine ⟨ret_bool ?_, HB⟩
      rw [Bool.eq_iff_iff]
      simp only [decide_eq_true_eq]
      constructor <;> intro h <;> omega
end Go.Proofs.YtehcpjodkadfnaaGreat
/- Layer 6 of the heap, fields, sixth part: places, one after the other. -/
set_option linter.unusedSimpArgs false
set_option linter.unusedVariables false
set_option maxRecDepth 100000
namespace Go.Proofs.YtehcpjodkadfnaaGreat
open Go.RowKit

/-- the bytes of a field -/
def Fd.n (f : Fd) : Nat := (longZ f.k f.l).toNat
theorem Fd.n_eq (f : Fd) : (f.n : Int) = longZ f.k f.l := by have := long_ge f.k f.l; unfold Fd.n; omega
theorem Fd.n_le (f : Fd) : f.n ≤ 64 := by have := long_ge f.k f.l; unfold Fd.n; omega
theorem Fd.n_pos {f : Fd} (h : mayB f.k f.l = true) : 0 < f.n := by
  have := long_ge f.k f.l
  have : ¬ longZ f.k f.l = 0 := fun e => by rw [(long_zero _ _).1 e] at h; cases h
  unfold Fd.n; omega
/-- where a field begins that comes behind a place -/
def atF (nx : Nat) (f : Fd) : Nat := if f.k = 12 then nx else upN nx f.n
/-- where the last of some fields ends -/
def endF : Nat → List Fd → Nat
  | nx, [] => nx
  | nx, f :: r => endF (atF nx f + f.n) r
/-- the fields, each with its place -/
def seqF : Nat → List Fd → List (Nat × Fd)
  | _, [] => []
  | nx, f :: r => (atF nx f, f) :: seqF (atF nx f + f.n) r
theorem endF_snoc (nx : Nat) (a : List Fd) (f : Fd) : endF nx (a ++ [f]) = atF (endF nx a) f + f.n := by
  induction a generalizing nx with
  | nil => rfl
  | cons g r ih => exact ih _
theorem seqF_snoc (nx : Nat) (a : List Fd) (f : Fd) : seqF nx (a ++ [f]) = seqF nx a ++ [(atF (endF nx a) f, f)] := by
  induction a generalizing nx with
  | nil => rfl
  | cons g r ih => simp only [List.cons_append, seqF, ih, endF]
theorem seqF_length (nx : Nat) (a : List Fd) : (seqF nx a).length = a.length := by
  induction a generalizing nx with
  | nil => rfl
  | cons g r ih => simp [seqF, ih]
def MayF (fs : List Fd) : Prop := ∀ f ∈ fs, mayB f.k f.l = true
theorem upN_le (a n : Nat) (h : 0 < n) : upN a n ≤ a + n - 1 ∧ a ≤ upN a n := by
  unfold upN
  have h1 := Nat.div_mul_le_self (a + n - 1) n
  have h2 := Nat.lt_div_mul_add h (a := a + n - 1)
  omega
theorem atF_le {nx : Nat} {f : Fd} (h : mayB f.k f.l = true) : atF nx f ≤ nx + 63 ∧ nx ≤ atF nx f := by
  unfold atF
  split
  · omega
  · have := upN_le nx f.n (Fd.n_pos h)
    have := f.n_le
    omega
theorem endF_le {nx : Nat} {fs : List Fd} (h : MayF fs) : endF nx fs ≤ nx + 128 * fs.length := by
  induction fs generalizing nx with
  | nil => simp [endF]
  | cons g r ih =>
    have h1 := atF_le (nx := nx) (h g (List.mem_cons_self ..))
    have h2 := g.n_le
    have h3 := ih (nx := atF nx g + g.n) (fun f hf => h f (List.mem_cons_of_mem _ hf))
    rw [endF, List.length_cons]; omega
theorem MayF.take {fs : List Fd} (h : MayF fs) (k : Nat) : MayF (fs.take k) := fun f hf => h f (List.mem_of_mem_take hf)

/-- a place that is not too far, and a field -/
abbrev PF := { x : Nat × Fd // x.1 ≤ 1000000 }
def encPF (x : PF) : Array Value := #[.int .i64 (x.1.1 : Int), .agg #[.string x.1.2.s, .int .i64 x.1.2.k, .int .i64 x.1.2.l]]
/-- what a round keeps: what lay below a block, and whatever holds a field -/
structure KpF (n₀ : Nat) (W W' : World) : Prop where
  below : Below n₀ W W'
  fld : ∀ (b : Nat) (cs : Array Value) (d : Nat × Nat), W.heap[b]? = some (.cells cs 29 d) → W'.heap[b]? = some (.cells cs 29 d)
theorem KpF.trans {n₀ : Nat} {A B C : World} (h : KpF n₀ A B) (k : KpF n₀ B C) : KpF n₀ A C := ⟨h.below.trans k.below, fun b cs d hb => k.fld b cs d (h.fld b cs d hb)⟩
theorem KpF.of_below {n₀ : Nat} {A B : World} (h : Below A.heap.size A B) (hn : n₀ ≤ A.heap.size) : KpF n₀ A B := ⟨h.mono hn, fun b cs d hb => (h.block b (Array.getElem?_eq_some_iff.1 hb).1).trans hb⟩
theorem KpF.putObj {n₀ : Nat} {w : World} (hn : n₀ ≤ w.heap.size) (W : World) (l : Nat) (o o' : Obj) (hl : w.heap.size ≤ l) (h : W.heap[l]? = some o) (hc : o.isCells = false) (hw : o.isWalk = false) : KpF n₀ W (W.putObj l o') :=
  ⟨belowK_b hn W l o o' hl h hc hw, fun b cs d hb => by
    have hne : b ≠ l := by rintro rfl; rw [h] at hb; cases hb; cases hc
    exact (World.putObj_heap_other (by omega)).trans hb⟩
theorem places_calls (A : Option Addr) (n c : Nat) (w : World) :
    CallsIn Fence.wide 3 Tryz.prog 72 #[.slice A n c] w fun e w' => e = .returned (.func (.func 83) #[] #[.pointer (some ⟨w.heap.size, 0, none⟩)]) ∧ w' = w.alloc (.cells #[.slice A n c] 22) := by
  rw [callsIn_wide]
  have hmf : ∀ (fn : Fn) (first cap : Array Value) (w : World), (Instr.makeFunc fn first cap).run Tryz.prog w = .ok (.func fn first cap) w := fun _ _ _ _ => rfl
  go_enter Tryz.func72, Tryz.ntmps72
  go_wp2
  go_ret
  exact ⟨rfl, rfl⟩
theorem grown_of_below {w w' : World} (h : Below w.heap.size w w') : w.grownBy w' none := ⟨h.os, h.tape, h.output, h.size, fun k hk _ => h.block k hk⟩
end Go.Proofs.YtehcpjodkadfnaaGreat
