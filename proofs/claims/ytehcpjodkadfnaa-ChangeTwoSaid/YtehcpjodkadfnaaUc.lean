/- Merged out of: Gc Gd Ke Kf Kg. -/
import Derived.Test.YtehcpjodkadfnaaUb
import Derived.Laws.RangeAny
import Derived.Lib.Hide
/- Layer 6 of the heap, fields, third part: which texts may be names. -/
set_option linter.unusedSimpArgs false
set_option linter.unusedVariables false
set_option maxRecDepth 100000
namespace Go.Proofs.Ytehcpjodkadfnaa
open Go.RowKit

/-- may a byte stand at a place of a name? -/
def signB (i b : Nat) : Bool := decide (97 ≤ b ∧ b ≤ 122) || (decide (i ≠ 0) && decide ((48 ≤ b ∧ b ≤ 57) ∨ b = 95))
def nameB (s : ByteArray) : Bool := decide (∀ i, ∀ h : i < s.size, signB i (s[i]'h).toNat = true) && decide (1 ≤ s.size ∧ s.size ≤ 15)
theorem nameB_bad {s : ByteArray} {i : Nat} (h : i < s.size) (hb : signB i (s[i]'h).toNat = false) : nameB s = false := by
  rw [nameB, decide_eq_false, Bool.false_and]
  intro ha
  have := ha i h
  rw [hb] at this; cases this
theorem rune_at (s : ByteArray) (pos : Nat) (h : pos < s.size) : ((s[pos]'h).toNat < 128 ∧ Utf8.decode s pos = ((s[pos]'h).toNat, 1)) ∨ (128 ≤ (s[pos]'h).toNat ∧ 128 ≤ (Utf8.decode s pos).1 ∧ 1 ≤ (Utf8.decode s pos).2) := by
  by_cases ha : (s[pos]'h).toNat < 128
  · exact .inl ⟨ha, decode_ascii s pos h ha⟩
  · exact .inr ⟨by omega, decode_high s pos h (by omega)⟩
theorem rune_sign (s : ByteArray) (pos : Nat) (h : pos < s.size) : ∃ y wd, Utf8.decode s pos = (y, wd) ∧ signB pos (s[pos]'h).toNat = signB pos y ∧ 1 ≤ wd ∧ (signB pos y = true → wd = 1) := by
  rcases rune_at s pos h with ⟨ha, hd⟩ | ⟨ha, hd1, hd2⟩
  · exact ⟨_, _, hd, rfl, Nat.le_refl _, fun _ => rfl⟩
  · have big : ∀ z, 128 ≤ z → signB pos z = false := fun z hz => by
      unfold signB
      rw [decide_eq_false (by omega), Bool.false_or, decide_eq_false (p := (48 ≤ z ∧ z ≤ 57) ∨ z = 95) (by omega), Bool.and_false]
    generalize Utf8.decode s pos = p at hd1 hd2 ⊢
    obtain ⟨y, wd⟩ := p
    exact ⟨y, wd, rfl, (big _ ha).trans (big y hd1).symm, hd2, fun h => by rw [big y hd1] at h; cases h⟩
/-- what is asked of a sign, told apart -/
theorem sign_ways (y pos : Nat) :
    (signB pos y = true ∧ decide (97 ≤ (y : Int)) = true ∧ decide ((y : Int) ≤ 122) = true)
    ∨ (signB pos y = false ∧ decide (97 ≤ (y : Int)) = false ∧ ((pos : Int) == 0) = true)
    ∨ (signB pos y = false ∧ decide (97 ≤ (y : Int)) = true ∧ decide ((y : Int) ≤ 122) = false ∧ ((pos : Int) == 0) = true)
    ∨ (signB pos y = true ∧ decide (97 ≤ (y : Int)) = false ∧ ((pos : Int) == 0) = false ∧ decide ((y : Int) < 48) = false ∧ decide (57 < (y : Int)) = false)
    ∨ (signB pos y = false ∧ decide (97 ≤ (y : Int)) = false ∧ ((pos : Int) == 0) = false ∧ decide ((y : Int) < 48) = true ∧ ((y : Int) != 95) = true)
    ∨ (signB pos y = false ∧ decide (97 ≤ (y : Int)) = false ∧ ((pos : Int) == 0) = false ∧ decide ((y : Int) < 48) = false ∧ decide (57 < (y : Int)) = true ∧ ((y : Int) != 95) = true)
    ∨ (signB pos y = true ∧ decide (97 ≤ (y : Int)) = false ∧ ((pos : Int) == 0) = false ∧ decide ((y : Int) < 48) = false ∧ decide (57 < (y : Int)) = true ∧ ((y : Int) != 95) = false)
    ∨ (signB pos y = false ∧ decide (97 ≤ (y : Int)) = true ∧ decide ((y : Int) ≤ 122) = false ∧ ((pos : Int) == 0) = false ∧ decide ((y : Int) < 48) = false ∧ decide (57 < (y : Int)) = true ∧ ((y : Int) != 95) = true) := by
  have e1 : decide (97 ≤ (y : Int)) = decide (97 ≤ y) := by rw [Bool.eq_iff_iff]; simp; omega
  have e2 : decide ((y : Int) ≤ 122) = decide (y ≤ 122) := by rw [Bool.eq_iff_iff]; simp; omega
  have e3 : ((pos : Int) == 0) = decide (pos = 0) := by rw [Bool.eq_iff_iff]; simp
  have e4 : decide ((y : Int) < 48) = decide (y < 48) := by rw [Bool.eq_iff_iff]; simp; omega
  have e5 : decide (57 < (y : Int)) = decide (57 < y) := by rw [Bool.eq_iff_iff]; simp; omega
  have e6 : ((y : Int) != 95) = !decide (y = 95) := by rw [Bool.eq_iff_iff]; simp; omega
  have e0 : signB pos y = ((decide (97 ≤ y) && decide (y ≤ 122)) || (!decide (pos = 0) && ((!decide (y < 48) && !decide (57 < y)) || decide (y = 95)))) := by
    rw [Bool.eq_iff_iff]; simp [signB]
  rw [e0, e1, e2, e3, e4, e5, e6]
  have i1 : decide (97 ≤ y) = false → decide (y ≤ 122) = true := by simp; omega
  have i2 : decide (97 ≤ y) = true → decide (y < 48) = false ∧ decide (57 < y) = true ∧ decide (y = 95) = false := by simp; omega
  have i3 : decide (y < 48) = true → decide (57 < y) = false ∧ decide (y = 95) = false := by simp; omega
  have i4 : decide (57 < y) = false → decide (y = 95) = false := by simp; omega
  generalize decide (97 ≤ y) = A at *
  generalize decide (y ≤ 122) = B at *
  generalize decide (pos = 0) = C at *
  generalize decide (y < 48) = D at *
  generalize decide (57 < y) = E at *
  generalize decide (y = 95) = F at *
  clear e0 e1 e2 e3 e4 e5 e6
  revert i1 i2 i3 i4
  cases A <;> cases B <;> cases C <;> cases D <;> cases E <;> cases F <;> decide
set_option maxHeartbeats 1600000 in
theorem Name_calls (s : ByteArray) (w : World) : Calls Try.prog 38 #[.string s] w fun e w' => e = .returned (.bool (nameB s)) ∧ Below w.heap.size w w' := by
  obtain ⟨r, hr⟩ : ∃ r, nameB s = r := ⟨_, rfl⟩
  rw [hr]
  go_enter Try.func38, Try.ntmps38
  go_wp2
  go_loopw [3, 4, 5] (fun _ _ _ w' => ∃ pos : Nat, w' = w.iter s pos ∧ pos ≤ s.size ∧ ∀ i, ∀ h : i < s.size, i < pos → signB i (s[i]'h).toNat = true) (fun _ _ _ w' => s.size - w'.iterPos w.heap.size)
  case atStart => exact ⟨0, rfl, by omega, fun i h h0 => by omega⟩
  case round =>
    obtain ⟨pos, rfl, hle, hall⟩ := hrel
    by_cases hp : pos < s.size
    · have hnx : ∀ ty, (Instr.next (.pointer (some ⟨w.heap.size, 0, none⟩)) true ty).run Try.prog (w.iter s pos) = _ := fun ty => run_next_any w s pos ty hp
      obtain ⟨y, wd, hd, hsy, hwd, hw1⟩ := rune_sign s pos hp
      rw [hd] at hnx
      have hbad := fun h => (hr.symm.trans (nameB_bad hp (hsy.trans h)) : r = false)
      have hok : signB pos y = true → ∀ i, ∀ h : i < s.size, i < pos + wd → signB i (s[i]'h).toNat = true := fun h i hi hlt => by
        have := hw1 h
        rcases (by omega : i < pos ∨ i = pos) with h2 | rfl
        · exact hall i hi h2
        · exact hsy.trans h
      have hle2 : signB pos y = true → pos + wd ≤ s.size := fun h => by have := hw1 h; omega
      clear hall hr hsy hd hw1
      rcases sign_ways y pos with ⟨hs, h1, h2⟩ | ⟨hs, h1, h2⟩ | ⟨hs, h1, h2, h3⟩ | ⟨hs, h1, h2, h3, h4⟩ | ⟨hs, h1, h2, h3, h4⟩ | ⟨hs, h1, h2, h3, h4, h5⟩ | ⟨hs, h1, h2, h3, h4, h5⟩ | ⟨hs, h1, h2, h3, h4, h5, h6⟩
      · have hok := hok hs
        have hle2 := hle2 hs
        clear hbad hs
        go_wp2
        go_roundw
        case rel => exact ⟨pos + wd, rfl, hle2, hok⟩
        case measure => simp; omega
      · obtain rfl := hbad hs
        clear hok hle2 hs hbad
        go_wp2
        go_ret
        exact ⟨rfl, below_new _⟩
      · obtain rfl := hbad hs
        clear hok hle2 hs hbad
        go_wp2
        go_ret
        exact ⟨rfl, below_new _⟩
      · have hok := hok hs
        have hle2 := hle2 hs
        clear hbad hs
        go_wp2
        go_roundw
        case rel => exact ⟨pos + wd, rfl, hle2, hok⟩
        case measure => simp; omega
      · obtain rfl := hbad hs
        clear hok hle2 hs hbad
        go_wp2
        go_ret
        exact ⟨rfl, below_new _⟩
      · obtain rfl := hbad hs
        clear hok hle2 hs hbad
        go_wp2
        go_ret
        exact ⟨rfl, below_new _⟩
      · have hok := hok hs
        have hle2 := hle2 hs
        clear hbad hs
        go_wp2
        go_roundw
        case rel => exact ⟨pos + wd, rfl, hle2, hok⟩
        case measure => simp; omega
      · obtain rfl := hbad hs
        clear hok hle2 hs hbad
        go_wp2
        go_ret
        exact ⟨rfl, below_new _⟩
    · have hnx : ∀ ty, (Instr.next (.pointer (some ⟨w.heap.size, 0, none⟩)) true ty).run Try.prog (w.iter s pos) = _ := fun ty => run_next_end w s pos ty hp
      obtain rfl : pos = s.size := by omega
      have hn : nameB s = decide (1 ≤ s.size ∧ s.size ≤ 15) := by rw [nameB, decide_eq_true (fun i h => hall i h h), Bool.true_and]
      rw [hr] at hn
      clear hall hr
      go_wp2
      all_goals
        go_ret
        refine ⟨ret_bool ?_, below_new _⟩
        subst hn
        rw [Bool.eq_iff_iff]
        simp at *
        omega
end Go.Proofs.Ytehcpjodkadfnaa
/- Layer 6 of the heap, fields, fourth part: the reference's names. -/
set_option linter.unusedSimpArgs false
set_option linter.unusedVariables false
set_option maxRecDepth 100000
namespace Go.Proofs.Ytehcpjodkadfnaa
open Go.RowKit

/-- the signs of names, as the reference lists them -/
def signL : List UInt8 := [97, 98, 99, 100, 101, 102, 103, 104, 105, 106, 107, 108, 109, 110, 111, 112, 113, 114, 115, 116, 117, 118, 119, 120, 121, 122, 48, 49, 50, 51, 52, 53, 54, 55, 56, 57, 95]
/-- the last place of a byte among the first k signs -/
def atN (c : UInt8) : Nat → Int
  | 0 => -1
  | k + 1 => if signL.getD k 0 = c then k else atN c k
theorem atN_bd (c : UInt8) (k : Nat) : -1 ≤ atN c k ∧ atN c k < k + 1 := by
  induction k with
  | zero => simp [atN]
  | succ k ih => rw [atN]; split <;> omega
theorem sign_all : ∀ n : Fin 256, ∀ b : Bool, (decide (atN (UInt8.ofNat n.val) 37 < 0) || (b && decide (25 < atN (UInt8.ofNat n.val) 37))) = !signB (if b then 0 else 1) n.val := by decide +kernel
theorem sign_at (c : UInt8) (i : Nat) : (decide (atN c 37 < 0) || (decide (i = 0) && decide (25 < atN c 37))) = !signB i c.toNat := by
  have h := sign_all ⟨c.toNat, c.toNat_lt⟩ (decide (i = 0))
  simp only [UInt8.ofNat_toNat] at h
  rw [h]
  by_cases hi : i = 0
  · subst hi; rfl
  · simp [signB, hi]
theorem signL_get (k : Nat) (h : k < (⟨signL.toArray⟩ : ByteArray).size) : (⟨signL.toArray⟩ : ByteArray)[k]'h = signL.getD k 0 := by
  have h' : k < signL.length := h
  rw [List.getD_eq_getElem?_getD, List.getElem?_eq_getElem h']
  rfl
set_option maxHeartbeats 1600000 in
theorem rName_calls (s : ByteArray) (hs : s.size ≤ 9223372036854775807) (w : World) : Calls Try.prog 18 #[.string s] w fun e w' => e = .returned (.bool (nameB s)) ∧ Below w.heap.size w w' := by
  obtain ⟨r, hr⟩ : ∃ r, nameB s = r := ⟨_, rfl⟩
  rw [hr]
  have HR := Lib.hid hr
  clear hr
  go_enter Try.func18, Try.ntmps18
  go_wp2
  generalize hsg : (⟨#[97, 98, 99, 100, 101, 102, 103, 104, 105, 106, 107, 108, 109, 110, 111, 112, 113, 114, 115, 116, 117, 118, 119, 120, 121, 122, 48, 49, 50, 51, 52, 53, 54, 55, 56, 57, 95]⟩ : ByteArray) = sg
  have hz : sg.size = 37 := by subst hsg; rfl
  have HG : Hid (∀ k, ∀ h : k < sg.size, sg[k]'h = signL.getD k 0) := Lib.hid (by subst hsg; exact fun k h => signL_get k h)
  clear hsg
  go_loopw [4, 5, 6] (fun i _ _ wr => ∃ k : Nat, k ≤ s.size ∧ i = .int .i64 k ∧ Below w.heap.size w wr ∧ Hid (∀ j, ∀ h : j < s.size, j < k → signB j (s[j]'h).toNat = true)) (fun i _ _ _ => s.size - (intOf i).toNat)
  case atStart => exact ⟨0, by omega, rfl, Below.refl _ _, Lib.hid fun j h h0 => by omega⟩
  case round =>
    obtain ⟨k, hk, rfl, HB, hall⟩ := hrel
    by_cases hlt : k < s.size
    · have hsign := sign_at (s[k]'hlt) k
      obtain ⟨c, hc⟩ : ∃ c, s[k]'hlt = c := ⟨_, rfl⟩
      rw [hc] at hsign
      have HC := Lib.hid hc
      clear hc
      have HS := Lib.hid hsign
      clear hsign
      go_wp2
      obtain ⟨wo, rfl⟩ : ∃ wo : World, wo = wr := ⟨_, rfl⟩
      go_loopw [5, 6] (fun q j wr => ∃ m : Nat, m ≤ 37 ∧ j = .int .i64 m ∧ q = .int .i64 (atN c m) ∧ Below w.heap.size w wr) (fun _ j _ => 37 - (intOf j).toNat)
      case atStart => exact ⟨0, by omega, rfl, rfl, HB⟩
      case round =>
        obtain ⟨m, hm, rfl, rfl, HB2⟩ := hrel
        by_cases hlm : m < 37
        · have hmz : m < sg.size := by omega
          go_wp2
          refine RW.start (fun w' => Below w.heap.size w w') (by kernel_rfl) (by kernel_rfl) HB2.drew ?_
          clear HB2
          repeat (first
            | (refine' RW.val (by rfl) ?_ ?_; rotate_left; (focus (intro w' hS; have HB2 := hS; clear hS; go_simp; rfl)); simp only [Act.put, List.setIfInBounds_toArray, List.set_cons_zero, List.set_cons_succ])
            | (refine RW.off (by rfl) ?_; simp only [Act.put, List.setIfInBounds_toArray, List.set_cons_zero, List.set_cons_succ]))
          refine RW.done (fun w' hS => ?_)
          have HB2 := hS; clear hS
          have hgm : sg[m]'hmz = signL.getD m 0 := HG.out m hmz
          by_cases he : signL.getD m 0 = c
          · have ht : (((sg[m]'hmz).toNat : Int) == ((s[k]'hlt).toNat : Int)) = true := by rw [hgm, HC.out, he]; simp
            clear hgm
            go_wp2
            go_roundw
            case rel => exact ⟨m + 1, by omega, by go_num, by rw [atN, if_pos he], HB2⟩
            case measure => simp [intOf]; omega
          · have ht : (((sg[m]'hmz).toNat : Int) == ((s[k]'hlt).toNat : Int)) = false := by
              rw [hgm, HC.out, beq_eq_false_iff_ne]
              intro h
              apply he
              have := Int.ofNat.inj h
              exact UInt8.toNat_inj.1 this
            clear hgm
            go_wp2
            go_roundw
            case rel => exact ⟨m + 1, by omega, by go_num, by rw [atN, if_neg he], HB2⟩
            case measure => simp [intOf]; omega
        · obtain rfl : m = 37 := by omega
          have hall2 : signB k c.toNat = true → Hid (∀ j, ∀ h : j < s.size, j < k + 1 → signB j (s[j]'h).toNat = true) := fun h => Lib.hid fun j hj hjk => by
            rcases (by omega : j < k ∨ j = k) with h2 | rfl
            · exact hall.out j hj h2
            · rw [HC.out]; exact h
          have hbad : signB k c.toNat = false → r = false := fun h => HR.out.symm.trans (nameB_bad hlt (by rw [HC.out]; exact h))
          obtain ⟨A, hA⟩ : ∃ A, decide (atN c 37 < 0) = A := ⟨_, rfl⟩
          obtain ⟨D, hD⟩ : ∃ D, decide (25 < atN c 37) = D := ⟨_, rfl⟩
          obtain ⟨C, hC⟩ : ∃ C, ((k : Int) == 0) = C := ⟨_, rfl⟩
          have hC2 : decide (k = 0) = C := by rw [← hC, Bool.eq_iff_iff]; simp
          have hs2 := HS.out
          rw [hA, hD, hC2] at hs2
          clear hC2
          obtain ⟨q, hq⟩ : ∃ q, atN c 37 = q := ⟨_, rfl⟩
          rw [hq] at hA hD ⊢
          clear HC HG hall HS hq
          have hsv : signB k c.toNat = !(A || (C && D)) := by rw [hs2, Bool.not_not]
          clear hs2
          cases A <;> cases C <;> cases D <;> simp only [Bool.false_or, Bool.true_or, Bool.false_and, Bool.true_and, Bool.and_false, Bool.or_false, Bool.and_true, Bool.not_true, Bool.not_false] at hsv
          all_goals first
            | (have hall3 := hall2 hsv
               clear hall2 hbad hsv
               go_wp2
               go_roundw
               case rel => exact ⟨k + 1, by omega, by go_num, HB2, hall3⟩
               case measure => simp [intOf]; omega)
            | (obtain rfl := hbad hsv
               clear hall2 hbad hsv HR
               go_wp2
               go_ret
               exact ⟨rfl, HB2⟩)
    · obtain rfl : k = s.size := by omega
      have hn : nameB s = decide (1 ≤ s.size ∧ s.size ≤ 15) := by rw [nameB, decide_eq_true (fun i h => hall.out i h h), Bool.true_and]
      rw [HR.out] at hn
      have HN := Lib.hid hn
      clear hn hall HG
      go_wp2
      all_goals
        go_ret
        refine ⟨ret_bool ?_, HB⟩
        have hn := HN.out
        clear HN
        subst hn
        rw [Bool.eq_iff_iff]
        simp only [decide_eq_true_eq, Bool.false_eq_true]
        (first | (constructor <;> intro h <;> omega) | (exact ⟨fun h => h.elim, fun h => by omega⟩))
end Go.Proofs.Ytehcpjodkadfnaa
/- Layer 5 of the heap, kinds, second part: right values, zero values, and which casts may be. -/
set_option linter.unusedSimpArgs false
set_option linter.unusedVariables false
set_option maxRecDepth 100000
namespace Go.Proofs.Ytehcpjodkadfnaa
open Go.RowKit

/-- is a value right -/
def rightB (vk bits : Int) (tx : ByteArray) (k l : Int) : Bool := mayB k l && decide (vk = k) && decide ((tx.size : Int) = if k = 12 then l else 0) && fitB bits k l

theorem may_is (s : ByteArray) (k l : Int) (r : Bool) (h : mayB k l = r) (w : World) : Calls Try.prog 55 #[.agg #[.string s, .int .i64 k, .int .i64 l]] w fun e w' => e = .returned (.bool r) ∧ Below w.heap.size w w' := h ▸ may_calls s k l w

theorem Right_calls (vk bits : Int) (tx s : ByteArray) (k l : Int) (h0 : 0 ≤ bits) (h1 : bits < 18446744073709551616) (w : World) :
    Calls Try.prog 35 #[.agg #[.int .i64 vk, .int .u64 bits, .string tx], .agg #[.string s, .int .i64 k, .int .i64 l]] w fun e w' => e = .returned (.bool (rightB vk bits tx k l)) ∧ Below w.heap.size w w' := by
  have hmf : ∀ (fn : Fn) (first cap : Array Value) (w : World), (Instr.makeFunc fn first cap).run Try.prog w = .ok (.func fn first cap) w := fun _ _ _ _ => rfl
  obtain ⟨r, hr⟩ : ∃ r, mayB k l = r := ⟨_, rfl⟩
  have H := Lib.hid hr
  clear hr
  cases r
  · go_enter Try.func35, Try.ntmps35
    go_wp2_with (first | (go_at_call 55; refine (may_is _ _ _ _ H.out _).mono ?_; rintro e w1 ⟨rfl, hb⟩; obtain ⟨hc, hf⟩ := bcell hb))
    all_goals
      go_ret
      refine ⟨ret_bool (by simp [rightB, H.out]), ?_⟩
      exact below_seq ((below_new _).alloc (by simp) _) hb
  · go_enter Try.func35, Try.ntmps35
    go_wp2_with (first | (go_at_call 55; refine (may_is _ _ _ _ H.out _).mono ?_; rintro e w1 ⟨rfl, hb⟩; obtain ⟨hc, hf⟩ := bcell hb) | (go_at_call 52; refine (fits_calls _ _ s k l bits h0 h1 _ (by rw [hc _ _ (by simp)]; simp [go_sem]) (by rw [hc _ _ (by simp)]; simp [go_sem]) (by rw [hc _ _ (by simp)]; simp [go_sem]) (by rw [hc _ _ (by simp; omega)]; simp [go_sem])).mono ?_; rintro e w2 ⟨rfl, hb2⟩))
    all_goals
      go_ret
      refine ⟨ret_bool (by rw [rightB, H.out]; simp only [beq_iff_eq, beq_eq_false_iff_ne, ne_eq] at *; first | (simp [*]; done) | grind), ?_⟩
      first | exact below_seq (below_seq ((below_new _).alloc (by simp) _) hb) hb2 | exact below_seq ((below_new _).alloc (by simp) _) hb

theorem Right_is (vk bits : Int) (tx s : ByteArray) (k l : Int) (h0 : 0 ≤ bits) (h1 : bits < 18446744073709551616) (r : Bool) (h : rightB vk bits tx k l = r) (w : World) :
    Calls Try.prog 35 #[.agg #[.int .i64 vk, .int .u64 bits, .string tx], .agg #[.string s, .int .i64 k, .int .i64 l]] w fun e w' => e = .returned (.bool r) ∧ Below w.heap.size w w' := h ▸ Right_calls vk bits tx s k l h0 h1 w
theorem Long_is (s : ByteArray) (k l : Int) (r : Int) (h : longZ k l = r) (w : World) : Calls Try.prog 39 #[.agg #[.string s, .int .i64 k, .int .i64 l]] w fun e w' => e = .returned (.int .i64 r) ∧ Below w.heap.size w w' := h ▸ Long_calls s k l w

/-- which field may turn into which -/
def castsB (k l k2 l2 : Int) : Bool :=
  if longZ k l = 0 ∨ longZ k2 l2 = 0 then false
  else if k = k2 then true
  else if k = 9 then btw 1 k2 4 || (btw 5 k2 8 && decide (longZ k l < longZ k2 l2))
  else if btw 1 k 4 = true then (btw 1 k2 8 && decide (longZ k l < longZ k2 l2)) || decide (k2 = 10)
  else if btw 5 k 8 = true then (btw 5 k2 8 && decide (longZ k l < longZ k2 l2)) || decide (k2 = 10)
  else decide (k = 10) && decide (k2 = 8)

theorem Casts_calls (s s2 : ByteArray) (k l k2 l2 : Int) (w : World) : Calls Try.prog 36 #[.agg #[.string s, .int .i64 k, .int .i64 l], .agg #[.string s2, .int .i64 k2, .int .i64 l2]] w fun e w' => e = .returned (.bool (castsB k l k2 l2)) ∧ Below w.heap.size w w' := by
  go_enter Try.func36, Try.ntmps36
  go_wp2_with (first | (go_at_call 56; refine (plain_calls _ _).mono ?_; rintro e w' ⟨rfl, rfl⟩) | (go_at_call 54; refine (signed_calls _ _).mono ?_; rintro e w' ⟨rfl, rfl⟩) | (go_at_call 39; refine (Long_calls _ _ _ _).mono ?_; rintro e w1 ⟨rfl, hb⟩; obtain ⟨hc, hf⟩ := bcell hb))
  obtain ⟨W, hW⟩ : ∃ W : World, W = (w.alloc (.cells #[.string s, .int .i64 k, .int .i64 l] 24)).alloc (.cells #[.string s2, .int .i64 k2, .int .i64 l2] 24) := ⟨_, rfl⟩
  have hBW : Below w.heap.size w W := hW ▸ (below_new _).alloc (by simp) _
  have b1 : FBox W w.heap.size s k l := hW ▸ (FBox.new w s k l).alloc _
  have b2 : FBox W (w.heap.size + 1) s2 k2 l2 := hW ▸ (by simpa using FBox.new (w.alloc (.cells #[.string s, .int .i64 k, .int .i64 l] 24)) s2 k2 l2)
  rw [← hW]
  clear hW
  refine RW.start (fun w' => Below w.heap.size w w' ∧ FBox w' w.heap.size s k l ∧ FBox w' (w.heap.size + 1) s2 k2 l2) (by kernel_rfl) (by kernel_rfl) ⟨hBW.drew, b1, b2⟩ ?_
  clear b1 b2 hBW
  repeat (first
    | (refine' RW.val (by rfl) ?_ ?_; rotate_left; (focus (intro w' hS; obtain ⟨hB, ⟨c0, c1, c2⟩, ⟨d0, d1, d2⟩⟩ := hS; go_simp; rfl)); simp only [Act.put, List.setIfInBounds_toArray, List.set_cons_zero, List.set_cons_succ])
    | (refine RW.off (by rfl) ?_; simp only [Act.put, List.setIfInBounds_toArray, List.set_cons_zero, List.set_cons_succ])
    | (refine' RW.call (by rfl) ?_ ?_ ?_
       rotate_left 3
       (focus (intro w' hS; obtain ⟨hB, ⟨c0, c1, c2⟩, ⟨d0, d1, d2⟩⟩ := hS; go_simp; exact ⟨rfl, rfl⟩))
       (focus
         intro w' hS
         obtain ⟨hB, ⟨c0, c1, c2⟩, ⟨d0, d1, d2⟩⟩ := hS
         first
           | (refine (Long_calls _ _ _ _).mono ?_; rintro e w1 ⟨rfl, hb⟩; exact ⟨rfl, ⟨(below_seq hB hb), ⟨(cell_below (B := 0) hb c0), (cell_below (B := 0) hb c1), (cell_below (B := 0) hb c2)⟩, ⟨(cell_below (B := 0) hb d0), (cell_below (B := 0) hb d1), (cell_below (B := 0) hb d2)⟩⟩⟩))
       simp only [Act.put, List.setIfInBounds_toArray, List.set_cons_zero, List.set_cons_succ]))
  refine RW.done (fun w' hS => ?_)
  obtain ⟨hB, ⟨c0, c1, c2⟩, ⟨d0, d1, d2⟩⟩ := hS
  go_wp2_with fail
  refine RW.start (fun w' => Below w.heap.size w w' ∧ FBox w' w.heap.size s k l ∧ FBox w' (w.heap.size + 1) s2 k2 l2) (by kernel_rfl) (by kernel_rfl) ⟨hB.drew, ⟨c0, c1, c2⟩, ⟨d0, d1, d2⟩⟩ ?_
  clear c0 c1 c2 d0 d1 d2 hB w'
  repeat (first
    | (refine' RW.val (by rfl) ?_ ?_; rotate_left; (focus (intro w' hS; obtain ⟨hB, ⟨c0, c1, c2⟩, ⟨d0, d1, d2⟩⟩ := hS; go_simp; rfl)); simp only [Act.put, List.setIfInBounds_toArray, List.set_cons_zero, List.set_cons_succ])
    | (refine RW.off (by rfl) ?_; simp only [Act.put, List.setIfInBounds_toArray, List.set_cons_zero, List.set_cons_succ]))
  refine RW.done (fun w' hS => ?_)
  obtain ⟨hB, ⟨c0, c1, c2⟩, ⟨d0, d1, d2⟩⟩ := hS
  clear c0 c1 c2 d0 d1 d2
  go_wp2_with (first | (go_at_call 56; refine (plain_calls _ _).mono ?_; rintro e w' ⟨rfl, rfl⟩) | (go_at_call 54; refine (signed_calls _ _).mono ?_; rintro e w' ⟨rfl, rfl⟩))
  all_goals
    go_ret
    refine ⟨ret_bool ?_, hB⟩
    clear hB
    try simp only [beq_iff_eq, beq_eq_false_iff_ne, ne_eq] at *
    rw [Bool.eq_iff_iff]
    try simp only [castsB, btw, decide_eq_true_eq, decide_eq_false_iff_not] at *
    grind
end Go.Proofs.Ytehcpjodkadfnaa
/- Layer 5 of the heap, kinds, third part: zero values, bytes of values. -/
set_option linter.unusedSimpArgs false
set_option linter.unusedVariables false
set_option maxRecDepth 100000
namespace Go.Proofs.Ytehcpjodkadfnaa
open Go.RowKit

theorem mayB_12 {l : Int} : mayB 12 l = btw 1 l 64 := by simp [mayB]
theorem mayB_of {k l : Int} (h : mayB k l = true) (hk : ¬ k = 12) : l = 0 ∧ 0 < sizeZ k := by
  simp [mayB, hk] at h; omega

def zeroL (k l : Int) : ByteArray := if k = 12 then strL (List.replicate l.toNat 0) else ⟨#[]⟩

/-- the zero value of a field -/
def zeroV (k l : Int) : Value := if mayB k l = true then .agg #[.int .i64 k, .int .u64 0, .string (zeroL k l)] else .agg #[.int .i64 0, .int .u64 0, .string ⟨#[]⟩]
/-- the bytes of a right value -/
def encL (bits : Int) (tx : ByteArray) (k l : Int) : List UInt8 := if k = 12 then bl tx else leL bits (longZ k l).toNat
theorem long_cases {k l : Int} (h : mayB k l = true) (hk : ¬ k = 12) : longZ k l = 1 ∨ longZ k l = 2 ∨ longZ k l = 4 ∨ longZ k l = 8 := by
  have h2 := (mayB_of h hk).2
  rw [longZ, if_pos h, if_neg hk]
  unfold sizeZ at h2 ⊢
  split <;> (try split) <;> (try split) <;> (try split) <;> simp_all
theorem long_12 {l : Int} (h : mayB 12 l = true) : longZ 12 l = l := by simp [longZ, h]
theorem right_may {vk bits : Int} {tx : ByteArray} {k l : Int} (h : rightB vk bits tx k l = true) : mayB k l = true ∧ vk = k ∧ ((tx.size : Int) = if k = 12 then l else 0) ∧ fitB bits k l = true := by
  simp only [rightB, Bool.and_eq_true, decide_eq_true_eq] at h
  exact ⟨h.1.1.1, h.1.1.2, h.1.2, h.2⟩

end Go.Proofs.Ytehcpjodkadfnaa
/- Layer 5 of the heap, kinds, fourth part: values of bytes. -/
set_option linter.unusedSimpArgs false
set_option linter.unusedVariables false
set_option maxRecDepth 100000
namespace Go.Proofs.Ytehcpjodkadfnaa
open Go.RowKit

theorem Sign_is (n width : Int) (h0 : 0 ≤ n) (h1 : n < 18446744073709551616) (r : Int) (h : signZ n width = r) (w : World) : Calls Try.prog 71 #[.int .u64 n, .int .i64 width] w fun e w' => e = .returned (.int .u64 r) ∧ w = w' := h ▸ Sign_calls n width h0 h1 w
theorem signed_is (k : Int) (r : Bool) (h : btw 5 k 8 = r) (w : World) : Calls Try.prog 54 #[.int .i64 k] w fun e w' => e = .returned (.bool r) ∧ w = w' := h ▸ signed_calls k w
theorem Long_eq (s : ByteArray) (k l : Int) (r : Int) (h : longZ k l = r) (w : World) : Calls Try.prog 39 #[.agg #[.string s, .int .i64 k, .int .i64 l]] w fun e w' => e = .returned (.int .i64 r) ∧ Below w.heap.size w w' := h ▸ Long_calls s k l w

/-- the bits that bytes have -/
def rawZ (l : List UInt8) (k long : Int) : Int := if k = 12 then 0 else if (l.length : Int) = longZ k long ∧ widthB l.length = true then numL l else 0
def decZ (l : List UInt8) (k long : Int) : Int := if btw 5 k 8 = true then signZ (rawZ l k long) l.length else rawZ l k long
def decT (l : List UInt8) (k : Int) : ByteArray := if k = 12 then strL l else ⟨#[]⟩
def decB (l : List UInt8) (k long : Int) : Bool := decide ((l.length : Int) = longZ k long) && rightB k (decZ l k long) (decT l k) k long
def decV (l : List UInt8) (k long : Int) : Value := if decB l k long = true then .agg #[.int .i64 k, .int .u64 (decZ l k long), .string (decT l k)] else .agg #[.int .i64 0, .int .u64 0, .string ⟨#[]⟩]
def decE (l : List UInt8) (k long : Int) : Int := if decB l k long = true then 0 else 50

theorem width_nat {n : Nat} (h : widthB n = true) : n ≤ 8 := by have := width_cases h; omega
theorem rawZ_bd (l : List UInt8) (k long : Int) : 0 ≤ rawZ l k long ∧ rawZ l k long < 18446744073709551616 := by
  unfold rawZ
  split
  · omega
  · split
    · rename_i h; exact numL_bd l (width_nat h.2)
    · omega
theorem signZ_bd (n width : Int) (h0 : 0 ≤ n) (h1 : n < 18446744073709551616) : 0 ≤ signZ n width ∧ signZ n width < 18446744073709551616 := by
  unfold signZ
  split
  · rename_i h
    have ht : topZ width = 256 ∨ topZ width = 65536 ∨ topZ width = 4294967296 ∨ topZ width = 18446744073709551616 := by unfold topZ; split <;> (try split) <;> (try split) <;> simp
    rcases ht with h | h | h | h <;> rw [h] <;> split <;> omega
  · omega
theorem decZ_bd (l : List UInt8) (k long : Int) : 0 ≤ decZ l k long ∧ decZ l k long < 18446744073709551616 := by
  unfold decZ
  have := rawZ_bd l k long
  split
  · exact signZ_bd _ _ this.1 this.2
  · exact this

theorem decV_ok {l : List UInt8} {k long : Int} (h : decB l k long = true) : decV l k long = .agg #[.int .i64 k, .int .u64 (decZ l k long), .string (decT l k)] ∧ decE l k long = 0 := by simp [decV, decE, h]
theorem decV_no {l : List UInt8} {k long : Int} (h : decB l k long = false) : decV l k long = .agg #[.int .i64 0, .int .u64 0, .string ⟨#[]⟩] ∧ decE l k long = 50 := by simp [decV, decE, h]

/-- all of some bytes, as a number -/
def getZ (l : List UInt8) : Int := if widthB l.length = true then numL l else 0
theorem getZ_bd (l : List UInt8) : 0 ≤ getZ l ∧ getZ l < 18446744073709551616 := by
  unfold getZ; split
  · rename_i h; exact numL_bd l (width_nat h)
  · omega
end Go.Proofs.Ytehcpjodkadfnaa
