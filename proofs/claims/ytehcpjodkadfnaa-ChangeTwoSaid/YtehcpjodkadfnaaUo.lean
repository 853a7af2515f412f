/- Merged out of: Mi Ko Wc Na. -/
import Derived.Test.YtehcpjodkadfnaaUn
import Derived.Test.YtehcpjodkadfnaaUi
/- Layers 7 and 8 of the heap, tables, ninth part: the table that changes nothing, as the program makes it. -/
set_option linter.unusedSimpArgs false
set_option linter.unusedVariables false
set_option maxRecDepth 100000
namespace Go.Proofs.Ytehcpjodkadfnaa
open Go.RowKit

set_option maxHeartbeats 4000000 in
theorem TSame_no (A : Option Addr) (c m : Nat) (l : List Fd) (hm : l.length = m) (hr : rightF l = false) (w : World) (hA : Rd w A (cellsF l)) (hl : m ≤ 9223372036854775807) :
    Calls Try.prog 30 #[.slice A m c] w fun e w' => e = .returned (.agg #[.slice none 0 0, .slice none 0 0, .slice none 0 0]) ∧ Below w.heap.size w w' := by
  have hb1 := below_new (w := w) (.cells #[.slice none 0 0, .slice none 0 0, .slice none 0 0] 36)
  have O := OBox.new w [.slice none 0 0, .slice none 0 0, .slice none 0 0] 36
  have HB := hb1
  replace hA := hA.below hb1
  have HM := Lib.hid hm
  have HR := Lib.hid hr
  clear hm hr hb1
  go_enter Try.func30, Try.ntmps30
  go_wp2_with (go_at_call 20; refine (Right_m A c m l HM.out false HR.out _ hA hl).mono ?_; rintro e wM ⟨rfl, hb⟩; replace HB := HB.trans (hb.mono HB.size); obtain ⟨k0, k1, k2, f0, f1, f2⟩ := (O.below hb).f3; clear hb)
  refine bodyPost_ret (v := .agg #[.slice none 0 0, .slice none 0 0, .slice none 0 0]) (by simp [results, Try.results30, go_sem, *]; done) rfl ⟨rfl, ?_⟩
  (repeat (first | exact HB | refine Below.setCell ?_ (by dsimp only; omega) _ | refine Below.alloc ?_ (by have hs_ := HB.size; first | (simp; done) | (simp; omega) | omega) _ | apply Below.drew))
end Go.Proofs.Ytehcpjodkadfnaa
/- Layer 5's laws: numbers that a float64 holds. -/
set_option linter.unusedSimpArgs false
set_option linter.unusedVariables false
set_option maxRecDepth 100000
namespace Go.Proofs.Ytehcpjodkadfnaa
open Go.RowKit

theorem fB_parts (s : Bool) (m : Nat) (h : m ≠ 0) (hL : m.log2 ≤ 1000) (he : exact53 m) : fld (fBits s m) = m.log2 + 1023 ∧ frc (fBits s m) = sgn m - 4503599627370496 ∧ ngB (fBits s m) = s := by
  have hb := sgn_bd m h
  have hr := rup_exact he
  unfold fBits
  rw [if_neg h, hr]
  simp only [Bool.toNat_false, Nat.add_zero]
  generalize hq : m.log2 = L at *
  generalize sgn m = g at *
  obtain ⟨t, rfl⟩ : ∃ t, g = t + 4503599627370496 := ⟨g - 4503599627370496, by omega⟩
  cases s
  · simp only [Bool.false_eq_true, if_false]
    unfold fld frc ngB
    refine ⟨by omega, by omega, by simp; omega⟩
  · simp only [if_true]
    unfold fld frc ngB
    refine ⟨by omega, by omega, by simp⟩
theorem exact_small {m : Nat} (h0 : m ≠ 0) (h : m ≤ 9007199254740992) : exact53 m ∧ m.log2 ≤ 53 := by
  have hl : m.log2 ≤ 53 := by
    have := (Nat.log2_lt (n := m) (k := 54) h0).2 (by omega)
    omega
  refine ⟨?_, hl⟩
  unfold exact53
  rcases (by omega : m.log2 ≤ 52 ∨ m.log2 = 53) with h1 | h1
  · rw [show m.log2 - 52 = 0 by omega]; omega
  · have := (Nat.le_log2 (n := m) (k := 53) h0).1 (by omega)
    have : m = 9007199254740992 := by omega
    subst this
    rw [h1]
theorem wholeZ_small (s : Bool) (m : Nat) (h : m ≤ 9007199254740992) : wholeZ (fBits s m) = if s = true then -(m : Int) else (m : Int) := by
  by_cases h0 : m = 0
  · subst h0
    have c0 : ∀ e : Int, e = -1075 → cutN (4503599627370496 + 0) e = 0 := fun e he => by
      obtain ⟨J, hJ⟩ : ∃ J, (-e).toNat = J := ⟨_, rfl⟩
      have h53 : 53 ≤ J := by omega
      unfold cutN
      rw [hJ, show e.toNat = 0 by omega, Nat.pow_zero, Nat.mul_one]
      exact Nat.div_eq_of_lt (Nat.lt_of_lt_of_le (show 4503599627370496 + 0 < 2 ^ 53 by decide) (Nat.pow_le_pow_right (by decide) h53))
    have e1 : fld (fBits s 0) = 0 := by cases s <;> rfl
    have e2 : frc (fBits s 0) = 0 := by cases s <;> rfl
    unfold wholeZ
    rw [e1, e2, c0 _ (by omega), if_neg (by omega), if_neg (by omega)]
    simp
  · obtain ⟨he, hl⟩ := exact_small h0 h
    obtain ⟨e1, e2, e3⟩ := fB_parts s m h0 (by omega) he
    have hb := sgn_bd m h0
    unfold wholeZ
    rw [e1, e2, e3, if_neg (by omega), if_neg (by omega), show 4503599627370496 + (sgn m - 4503599627370496) = sgn m by omega,
      show ((m.log2 + 1023 : Nat) : Int) - 1075 = (m.log2 : Int) - 52 by omega, cut_exact m he]

/-- a number's bits, as a float64 -/
def floatZ (n : Int) : Nat := if n < 0 then fBits true (-n).toNat else fBits false n.toNat
theorem floatZ_lt (n : Int) (h0 : -9007199254740992 ≤ n) (h1 : n ≤ 9007199254740992) : floatZ n < 18446744073709551616 := by
  unfold floatZ
  split
  · refine fBits_lt _ _ ?_
    by_cases hz : (-n).toNat = 0
    · rw [hz]; decide
    · have := (exact_small hz (by omega)).2; omega
  · refine fBits_lt _ _ ?_
    by_cases hz : n.toNat = 0
    · rw [hz]; decide
    · have := (exact_small hz (by omega)).2; omega
theorem wholeZ_float (n : Int) (h0 : -9007199254740992 ≤ n) (h1 : n ≤ 9007199254740992) : wholeZ (floatZ n) = n := by
  unfold floatZ
  split
  · rw [wholeZ_small _ _ (by omega), if_pos rfl]; omega
  · rw [wholeZ_small _ _ (by omega), if_neg (by simp)]; omega
theorem castZ_8 (n : Int) (h0 : -9007199254740992 ≤ n) (h1 : n ≤ 9007199254740992) : castZ (n % 18446744073709551616) 8 10 = floatZ n := by
  unfold castZ floatZ
  rw [if_neg (by simp [btw]), if_pos (by simp [btw])]
  split
  · rw [if_pos (by omega)]; congr 2; omega
  · rw [if_neg (by omega)]; congr 2; omega
theorem castZ_10 (n : Int) (h0 : -9007199254740992 ≤ n) (h1 : n ≤ 9007199254740992) : castZ (floatZ n : Int) 10 8 = n % 18446744073709551616 := by
  unfold castZ
  rw [if_neg (by simp), if_neg (by simp), if_pos (by simp), Int.toNat_natCast, wholeZ_float n h0 h1]
theorem right_8 (b : Int) (h0 : 0 ≤ b) (h1 : b < 18446744073709551616) : rightB 8 b ⟨#[]⟩ 8 0 = true := by
  have e : fitB b 8 0 = true := by
    unfold fitB
    rw [if_neg (by decide), if_neg (by decide), show longZ 8 0 = 8 by decide, show btw 5 8 8 = true by decide]
    simp [fitsB, widthB, signZ_8 b h0 h1]
  simp only [rightB, e, Bool.and_true]
  decide
theorem right_10 (b : Int) : rightB 10 b ⟨#[]⟩ 10 0 = true := by
  have e : fitB b 10 0 = true := by simp [fitB]
  simp only [rightB, e, Bool.and_true]
  decide
theorem castV_810 (n : Int) (h0 : -9007199254740992 ≤ n) (h1 : n ≤ 9007199254740992) : castV 8 (n % 18446744073709551616) ⟨#[]⟩ 8 0 10 0 = .agg #[.int .i64 10, .int .u64 (floatZ n : Int), .string ⟨#[]⟩] ∧ castE 8 (n % 18446744073709551616) ⟨#[]⟩ 8 0 10 0 = 0 := by
  have hr := right_8 (n % 18446744073709551616) (by omega) (by omega)
  rw [castV, castE, hr, show castsB 8 0 10 0 = true by decide, castZ_8 n h0 h1]
  simp [castT]
theorem castV_108 (n : Int) (h0 : -9007199254740992 ≤ n) (h1 : n ≤ 9007199254740992) : castV 10 (floatZ n : Int) ⟨#[]⟩ 10 0 8 0 = .agg #[.int .i64 8, .int .u64 (n % 18446744073709551616), .string ⟨#[]⟩] ∧ castE 10 (floatZ n : Int) ⟨#[]⟩ 10 0 8 0 = 0 := by
  rw [castV, castE, right_10, show castsB 10 0 8 0 = true by decide, castZ_10 n h0 h1]
  simp [castT]
end Go.Proofs.Ytehcpjodkadfnaa
/- KindCastRight, walked: it tells true. -/
set_option linter.unusedSimpArgs false
set_option linter.unusedVariables false
set_option maxRecDepth 100000
namespace Go.Proofs.Ytehcpjodkadfnaa
open Go.RowKit

theorem fBits_lt64 (s : Bool) (m : Nat) (h : m < 18446744073709551616) : fBits s m < 18446744073709551616 := by
  refine fBits_lt _ _ ?_
  by_cases h0 : m = 0
  · subst h0; decide
  · have := (Nat.log2_lt (n := m) (k := 64) h0).2 (by omega); omega
theorem castZ_bd (bits k k2 : Int) (h0 : 0 ≤ bits) (h1 : bits < 18446744073709551616) : 0 ≤ castZ bits k k2 ∧ castZ bits k k2 < 18446744073709551616 := by
  unfold castZ
  split
  · have := fBits_lt64 false bits.toNat (by omega); omega
  · split
    · split
      · have := fBits_lt64 true (18446744073709551616 - bits).toNat (by omega); omega
      · have := fBits_lt64 false bits.toNat (by omega); omega
    · split <;> omega
theorem sizeZ_val {k : Int} (h : mayB k 0 = true) (hk : ¬ k = 12) : longZ k 0 = sizeZ k := by
  rw [longZ, if_pos h, if_neg hk]
/-- what fits a plain or signed field of some width fits one that is wider -/
theorem fits_up {n w w2 : Int} {s s2 : Bool} (h0 : 0 ≤ n) (h1 : n < 18446744073709551616) (hw2 : widthB w2 = true) (hlt : w < w2) (hs : s = true → s2 = true) (h : fitsB n w s = true) : fitsB n w2 s2 = true := by
  simp only [fitsB, Bool.and_eq_true] at h ⊢
  refine ⟨hw2, ?_⟩
  obtain ⟨hw, h⟩ := h
  have hc := width_cases hw
  have hc2 := width_cases hw2
  have key : (s2 = true ∧ signZ n w2 = n) ∨ (s2 = false ∧ n < topZ w2) := by
    cases s2
    · have : s = false := by cases s; rfl; exact absurd (hs rfl) (by simp)
      subst this
      simp at h
      refine .inr ⟨rfl, ?_⟩
      rcases hc with rfl | rfl | rfl | rfl <;> rcases hc2 with rfl | rfl | rfl | rfl <;> simp [topZ] at h ⊢ <;> omega
    · refine .inl ⟨rfl, ?_⟩
      cases s
      · simp at h
        rcases hc with rfl | rfl | rfl | rfl <;> rcases hc2 with rfl | rfl | rfl | rfl <;> simp [topZ] at h <;> first | omega | (first | rw [signZ_arith2 n h0 h1] | rw [signZ_arith4 n h0 h1] | rw [signZ_8 n h0 h1]) <;> (try split) <;> omega
      · simp at h
        rcases hc with rfl | rfl | rfl | rfl <;> rcases hc2 with rfl | rfl | rfl | rfl <;> first | omega | (first | rw [signZ_arith2 n h0 h1] | rw [signZ_arith4 n h0 h1] | rw [signZ_8 n h0 h1]) <;> (first | rw [signZ_arith1 n h0 h1] at h | rw [signZ_arith2 n h0 h1] at h | rw [signZ_arith4 n h0 h1] at h | skip) <;> (repeat' split at h) <;> (try split) <;> omega
  rcases key with ⟨rfl, h⟩ | ⟨rfl, h⟩
  · simpa using h
  · simpa using h
theorem long_width {k : Int} (h : mayB k 0 = true) (hk : ¬ k = 12) : widthB (longZ k 0) = true := by
  have := long_cases h hk
  simp [widthB]; omega
theorem bit_fits {n w : Int} {s : Bool} (h0 : 0 ≤ n) (h : n ≤ 1) (hw : widthB w = true) : fitsB n w s = true := by
  simp only [fitsB, Bool.and_eq_true]
  refine ⟨hw, ?_⟩
  have hc := width_cases hw
  have hn : n = 0 ∨ n = 1 := by omega
  cases s
  · simp
    rcases hc with rfl | rfl | rfl | rfl <;> simp [topZ] <;> omega
  · simp
    rcases hn with rfl | rfl <;> rcases hc with rfl | rfl | rfl | rfl <;> decide
theorem long_may {k l : Int} (h : ¬ longZ k l = 0) : mayB k l = true := by
  cases hm : mayB k l
  · exact absurd (by rw [longZ, hm]; rfl) h
  · rfl
theorem cast_right {vk bits : Int} {tx : ByteArray} {k l k2 l2 : Int} (h0 : 0 ≤ bits) (h1 : bits < 18446744073709551616) (hr : rightB vk bits tx k l = true) (hc : castsB k l k2 l2 = true) :
    rightB k2 (castZ bits k k2) (castT tx k2 l2) k2 l2 = true ∧ ((castT tx k2 l2).size : Int) = l2 := by
  obtain ⟨hm, rfl, ht, hf⟩ := right_may hr
  clear hr
  have hm2 : mayB k2 l2 = true := by
    unfold castsB at hc
    split at hc
    · cases hc
    · rename_i hz
      exact long_may fun e => hz (.inr e)
  by_cases hk : k2 = 12
  · subst hk
    obtain ⟨rfl, -⟩ := casts_12 hc
    have hb := mayB_12 ▸ hm2
    have hb := btw_iff.1 hb
    have hs : ((castT tx 12 l2).size : Int) = l2 := by rw [castT, if_pos rfl, strL_size, padL_length]; omega
    refine ⟨?_, hs⟩
    have e : castZ bits 12 12 = bits := by simp [castZ]
    have hf' : fitB bits 12 l2 = true := by simpa [fitB] using hf
    rw [e]
    simp only [rightB, hm2, hs, hf', if_true, decide_true, Bool.and_true, Bool.true_and]
  · have hl2 : l2 = 0 := (mayB_of hm2 hk).1
    subst hl2
    have hT : castT tx k2 0 = ⟨#[]⟩ := by rw [castT, if_neg hk]
    rw [hT]
    refine ⟨?_, rfl⟩
    have goal : fitB (castZ bits vk k2) k2 0 = true → rightB k2 (castZ bits vk k2) ⟨#[]⟩ k2 0 = true := fun h => by
      simp only [rightB, hm2, h, decide_true, Bool.and_true, Bool.true_and, if_neg hk]
      rfl
    apply goal
    have hw2 := long_width hm2 hk
    by_cases h10 : k2 = 10 ∨ k2 = 11
    · rcases h10 with rfl | rfl <;> simp [fitB]
    · have hne : ¬ (k2 = 10 ∧ btw 1 vk 4 = true) := fun h => h10 (.inl h.1)
      have hne2 : ¬ (k2 = 10 ∧ btw 5 vk 8 = true) := fun h => h10 (.inl h.1)
      by_cases h8 : k2 = 8 ∧ vk = 10
      · obtain ⟨rfl, rfl⟩ := h8
        have e : castZ bits 10 8 = wholeZ bits.toNat % 18446744073709551616 := by simp [castZ]
        rw [e, fitB, if_neg (by decide), if_neg (by decide), show longZ 8 0 = 8 by decide, show btw 5 8 8 = true by decide]
        simp [fitsB, widthB, signZ_8 (wholeZ bits.toNat % 18446744073709551616) (by omega) (by omega)]
      · have e : castZ bits vk k2 = bits := by rw [castZ, if_neg hne, if_neg hne2, if_neg h8]
        rw [e]
        by_cases hkk : vk = k2
        · subst hkk
          have : l = 0 := (mayB_of hm hk).1
          subst this
          exact hf
        · unfold castsB at hc
          rw [if_neg hkk] at hc
          split at hc
          · cases hc
          · have h12 : ¬ vk = 12 := fun h => by
              subst h
              rw [if_neg (by decide), if_neg (by decide), if_neg (by decide)] at hc
              simp at hc
            obtain ⟨rfl, -⟩ := mayB_of hm h12
            split at hc
            · rename_i h9
              subst h9
              have hb1 : bits ≤ 1 := by simpa [fitB] using hf
              rw [fitB, if_neg hk]
              split
              · simpa using hb1
              · rw [bit_fits h0 hb1 hw2]; rfl
            · rename_i h9
              have hk9 : ¬ k2 = 9 := fun h => by
                subst h
                split at hc
                · simp [btw] at hc
                · split at hc
                  · simp [btw] at hc
                  · simp at hc
              have hd10 : decide (k2 = 10) = false := by simp; omega
              split at hc
              · rename_i h14
                have hb := btw_iff.1 h14
                rw [hd10, Bool.or_false, Bool.and_eq_true, decide_eq_true_eq] at hc
                have hf' : fitsB bits (longZ vk 0) (btw 5 vk 8) = true := by
                  rw [fitB, if_neg h12, if_neg h9] at hf
                  simpa [show ¬ vk = 10 by omega, show ¬ vk = 11 by omega] using hf
                have h5 : btw 5 vk 8 = false := by rw [btw_not]; omega
                rw [fitB, if_neg hk, if_neg hk9, fits_up h0 h1 hw2 hc.2 (by rw [h5]; simp) hf']; rfl
              · split at hc
                · rename_i h58
                  rw [hd10, Bool.or_false, Bool.and_eq_true, decide_eq_true_eq] at hc
                  have hb := btw_iff.1 h58
                  have hf' : fitsB bits (longZ vk 0) (btw 5 vk 8) = true := by
                    rw [fitB, if_neg h12, if_neg h9] at hf
                    simpa [show ¬ vk = 10 by omega, show ¬ vk = 11 by omega] using hf
                  rw [fitB, if_neg hk, if_neg hk9, fits_up h0 h1 hw2 hc.2 (by intro _; exact hc.1) hf']; rfl
                · simp at hc; omega
end Go.Proofs.Ytehcpjodkadfnaa
/- Layer 8 of the heap, changes, in plain words: what a change makes of fields; tables one behind the other. -/
set_option linter.unusedSimpArgs false
set_option linter.unusedVariables false
set_option maxRecDepth 100000
namespace Go.Proofs.Ytehcpjodkadfnaa
open Go.RowKit

/-- a change -/
structure Ch where
  op : Int
  s : ByteArray
  g : Fd
  d : Vl
  q : List Int
def rng (n : Nat) : List Int := (List.range n).map fun k : Nat => (k : Int)
theorem rng_succ (n : Nat) : rng (n + 1) = rng n ++ [(n : Int)] := by simp [rng, List.range_succ]
theorem rng_length (n : Nat) : (rng n).length = n := by simp [rng]
theorem mem_rng {n : Nat} {x : Int} : x ∈ rng n ↔ 0 ≤ x ∧ x < n := by
  simp only [rng, List.mem_map, List.mem_range]
  constructor
  · rintro ⟨k, hk, rfl⟩; omega
  · rintro ⟨h0, h1⟩; exact ⟨x.toNat, by omega, by omega⟩
/-- are numbers all from 0 on, each once? -/
def permB (q : List Int) (n : Nat) : Bool := decide (q.Perm (rng n))
theorem perm_of_all (n : Nat) : ∀ q : List Int, q.length = n → (∀ k : Nat, k < n → (k : Int) ∈ q) → q.Perm (rng n) := by
  induction n with
  | zero => intro q hq _; rw [List.eq_nil_of_length_eq_zero hq]; exact List.Perm.refl _
  | succ n ih =>
    intro q hq h
    have hn := h n (by omega)
    have h1 := List.perm_cons_erase hn
    have h2 := ih (q.erase n) (by rw [List.length_erase_of_mem hn]; omega) (fun k hk => (List.mem_erase_of_ne (by omega)).2 (h k (by omega)))
    rw [rng_succ]
    exact h1.trans ((List.Perm.cons _ h2).trans (List.perm_append_singleton _ _).symm)
theorem perm_mem {q : List Int} {n : Nat} (h : permB q n = true) {x : Int} (hx : x ∈ q) : 0 ≤ x ∧ x < n := mem_rng.1 ((of_decide_eq_true h).mem_iff.1 hx)
theorem perm_len {q : List Int} {n : Nat} (h : permB q n = true) : q.length = n := by rw [(of_decide_eq_true h).length_eq, rng_length]
/-- where the named field stands -/
def atC (l : List Fd) (c : Ch) : Nat := (findZ l c.s).toNat
/-- the new fields -/
def newF (l : List Fd) (c : Ch) : List Fd :=
  if c.op = 1 then l ++ [c.g]
  else if c.op = 2 then l.eraseIdx (atC l c)
  else if c.op = 3 then l.modify (atC l c) fun f => ⟨c.g.s, f.k, f.l⟩
  else if c.op = 4 then l.modify (atC l c) fun f => ⟨f.s, c.g.k, c.g.l⟩
  else c.q.map fun n => (l[n.toNat]?).getD Fd.z
/-- where they come from -/
def newM (l : List Fd) (c : Ch) : List Mv :=
  if c.op = 1 then kM l.length ++ [⟨-1, c.d⟩]
  else if c.op = 2 then (kM l.length).eraseIdx (atC l c)
  else if c.op = 5 then c.q.map fun n => ⟨n, Vl.z⟩
  else kM l.length
def castsAt (l : List Fd) (c : Ch) : Bool := match l[atC l c]? with | some f => castsB f.k f.l c.g.k c.g.l | none => false
def okVal (c : Ch) : Bool := rightB c.d.k c.d.b c.d.t c.g.k c.g.l && (decide (c.g.k ≠ 11) || decide (c.d.b = 0))
/-- the error ahead of the last question -/
def stepE (l : List Fd) (c : Ch) : Int :=
  if rightF l = false then 60
  else if ¬ (1 ≤ c.op ∧ c.op ≤ 5) then 80
  else if 2 ≤ c.op ∧ c.op ≤ 4 ∧ findZ l c.s < 0 then 61
  else if c.op = 1 ∧ okVal c = false then 80
  else if c.op = 4 ∧ castsAt l c = false then 80
  else if c.op = 5 ∧ permB c.q l.length = false then 80
  else 0
def tabC (l : List Fd) (c : Ch) : Tb := ⟨l, newF l c, newM l c⟩
def Tb.z : Tb := ⟨[], [], []⟩
def makeE (l : List Fd) (c : Ch) : Int := if stepE l c = 0 then (if rightF (newF l c) = true then 0 else 80) else stepE l c
def makeT (l : List Fd) (c : Ch) : Tb := if makeE l c = 0 then tabC l c else Tb.z

theorem casts_refl {k l : Int} (h : mayB k l = true) : castsB k l k l = true := by
  have : ¬ longZ k l = 0 := by rw [long_zero]; simp [h]
  simp [castsB, this]
theorem rightF_at {l : List Fd} (h : rightF l = true) {j : Nat} {f : Fd} (hf : l[j]? = some f) : castsB f.k f.l f.k f.l = true := casts_refl (rightF_ok h hf).2.1
theorem okMv_keep {o : List Fd} {g f : Fd} {i : Int} (h0 : 0 ≤ i) (hf : o[i.toNat]? = some f) (hc : castsB f.k f.l g.k g.l = true) : okMv o g ⟨i, Vl.z⟩ = true := by
  rw [okMv, if_neg (by show ¬ i = -1; omega)]
  simp [h0, hf, hc]
theorem kM_get {n j : Nat} (h : j < n) : (kM n)[j]? = some ⟨(j : Int), Vl.z⟩ := by simp [kM, h]
theorem kM_none {n j : Nat} (h : n ≤ j) : (kM n)[j]? = none := by rw [List.getElem?_eq_none]; rw [kM_length]; exact h
theorem okAt_mk {t : Tb} {k : Nat} {m : Mv} {g : Fd} (hm : t.m[k]? = some m) (hg : t.n[k]? = some g) : okAt t k = okMv t.o g m := by simp [okAt, hm, hg]
theorem rightT_iff {t : Tb} : rightT t = true ↔ rightF t.o = true ∧ rightF t.n = true ∧ t.m.length = t.n.length ∧ ∀ k, k < t.m.length → okAt t k = true := by
  simp only [rightT, Bool.and_eq_true, decide_eq_true_eq, and_assoc]
/-- the table that changes nothing is right -/
theorem keep_right {l : List Fd} (h : rightF l = true) : rightT ⟨l, l, kM l.length⟩ = true := by
  rw [rightT_iff]
  refine ⟨h, h, kM_length _, fun k hk => ?_⟩
  rw [kM_length] at hk
  have hf : l[k]? = some (l[k]'hk) := List.getElem?_eq_getElem hk
  rw [okAt_mk (kM_get hk) hf]
  exact okMv_keep (by omega) (by rw [Int.toNat_natCast]; exact hf) (rightF_at h hf)
theorem keepT_right {l : List Fd} (h : rightF l = true) : keepT l = ⟨l, l, kM l.length⟩ := by rw [keepT, if_pos h]; rfl
theorem atC_lt {l : List Fd} {c : Ch} (h : ¬ findZ l c.s < 0) : atC l c < l.length := by
  have := findZ_ge l c.s; unfold atC; omega
/-- the parts of what a change makes are alike long, and each move may be -/
theorem tabC_ok {l : List Fd} {c : Ch} (hr : rightF l = true) (h1 : 1 ≤ c.op ∧ c.op ≤ 5) (h2 : 2 ≤ c.op ∧ c.op ≤ 4 → ¬ findZ l c.s < 0) (h4 : c.op = 4 → castsAt l c = true) (h5 : c.op = 5 → permB c.q l.length = true) :
    (newM l c).length = (newF l c).length ∧ ∀ k, k < (newM l c).length → okAt (tabC l c) k = (if c.op = 1 ∧ k = l.length then okVal c else true) := by
  rcases (by omega : c.op = 1 ∨ c.op = 2 ∨ c.op = 3 ∨ c.op = 4 ∨ c.op = 5) with e | e | e | e | e
  · have eF : newF l c = l ++ [c.g] := by simp [newF, e]
    have eM : newM l c = kM l.length ++ [⟨-1, c.d⟩] := by simp [newM, e]
    refine ⟨by rw [eF, eM]; simp [kM_length], fun k hk => ?_⟩
    rw [eM] at hk
    simp [kM_length] at hk
    by_cases hl : k = l.length
    · rw [if_pos ⟨e, hl⟩, okAt_mk (t := tabC l c) (m := ⟨-1, c.d⟩) (g := c.g) (by show (newM l c)[k]? = _; rw [eM, List.getElem?_append_right (by rw [kM_length]; omega)]; simp [kM_length, hl]) (by show (newF l c)[k]? = _; rw [eF]; simp [hl])]
      rw [okMv, if_pos rfl]; rfl
    · rw [if_neg (fun h => hl h.2)]
      have hk' : k < l.length := by omega
      have hf : l[k]? = some (l[k]'hk') := List.getElem?_eq_getElem hk'
      rw [okAt_mk (t := tabC l c) (m := ⟨k, Vl.z⟩) (g := l[k]'hk') (by show (newM l c)[k]? = _; rw [eM, List.getElem?_append_left (by rw [kM_length]; omega)]; exact kM_get hk') (by show (newF l c)[k]? = _; rw [eF, List.getElem?_append_left hk']; exact hf)]
      exact okMv_keep (by omega) (by show l[((k : Nat) : Int).toNat]? = _; rw [Int.toNat_natCast]; exact hf) (rightF_at hr hf)
  · have hx := atC_lt (h2 (by omega))
    have eF : newF l c = l.eraseIdx (atC l c) := by simp [newF, e]
    have eM : newM l c = (kM l.length).eraseIdx (atC l c) := by simp [newM, e]
    refine ⟨by rw [eF, eM, List.length_eraseIdx_of_lt (by rw [kM_length]; exact hx), List.length_eraseIdx_of_lt hx, kM_length], fun k hk => ?_⟩
    rw [eM, List.length_eraseIdx_of_lt (by rw [kM_length]; exact hx), kM_length] at hk
    rw [if_neg (by rintro ⟨h, _⟩; omega)]
    by_cases hl : k < atC l c
    · have hk' : k < l.length := by omega
      have hf : l[k]? = some (l[k]'hk') := List.getElem?_eq_getElem hk'
      rw [okAt_mk (t := tabC l c) (m := ⟨k, Vl.z⟩) (g := l[k]'hk') (by show (newM l c)[k]? = _; rw [eM, List.getElem?_eraseIdx, if_pos hl]; exact kM_get hk') (by show (newF l c)[k]? = _; rw [eF, List.getElem?_eraseIdx, if_pos hl]; exact hf)]
      exact okMv_keep (by omega) (by show l[((k : Nat) : Int).toNat]? = _; rw [Int.toNat_natCast]; exact hf) (rightF_at hr hf)
    · have hk' : k + 1 < l.length := by omega
      have hf : l[k + 1]? = some (l[k + 1]'hk') := List.getElem?_eq_getElem hk'
      rw [okAt_mk (t := tabC l c) (m := ⟨((k + 1 : Nat) : Int), Vl.z⟩) (g := l[k + 1]'hk') (by show (newM l c)[k]? = _; rw [eM, List.getElem?_eraseIdx, if_neg hl]; exact kM_get hk') (by show (newF l c)[k]? = _; rw [eF, List.getElem?_eraseIdx, if_neg hl]; exact hf)]
      exact okMv_keep (by omega) (by show l[((k + 1 : Nat) : Int).toNat]? = _; rw [Int.toNat_natCast]; exact hf) (rightF_at hr hf)
  · have hx := atC_lt (h2 (by omega))
    have eF : newF l c = l.modify (atC l c) fun f => ⟨c.g.s, f.k, f.l⟩ := by simp [newF, e]
    have eM : newM l c = kM l.length := by simp [newM, e]
    refine ⟨by rw [eF, eM, List.length_modify, kM_length], fun k hk => ?_⟩
    rw [eM, kM_length] at hk
    rw [if_neg (by rintro ⟨h, _⟩; omega)]
    have hf : l[k]? = some (l[k]'hk) := List.getElem?_eq_getElem hk
    obtain ⟨g, hg, g1, g2⟩ : ∃ g, (newF l c)[k]? = some g ∧ g.k = (l[k]'hk).k ∧ g.l = (l[k]'hk).l := by
      rw [eF, List.getElem?_modify, hf]
      by_cases hl : atC l c = k
      · exact ⟨⟨c.g.s, (l[k]'hk).k, (l[k]'hk).l⟩, by simp [hl], rfl, rfl⟩
      · exact ⟨l[k]'hk, by simp [hl], rfl, rfl⟩
    rw [okAt_mk (t := tabC l c) (m := ⟨k, Vl.z⟩) (g := g) (by show (newM l c)[k]? = _; rw [eM]; exact kM_get hk) hg]
    exact okMv_keep (by omega) (by show l[((k : Nat) : Int).toNat]? = _; rw [Int.toNat_natCast]; exact hf) (by rw [g1, g2]; exact rightF_at hr hf)
  · have hx := atC_lt (h2 (by omega))
    have eF : newF l c = l.modify (atC l c) fun f => ⟨f.s, c.g.k, c.g.l⟩ := by simp [newF, e]
    have eM : newM l c = kM l.length := by simp [newM, e]
    refine ⟨by rw [eF, eM, List.length_modify, kM_length], fun k hk => ?_⟩
    rw [eM, kM_length] at hk
    rw [if_neg (by rintro ⟨h, _⟩; omega)]
    have hf : l[k]? = some (l[k]'hk) := List.getElem?_eq_getElem hk
    obtain ⟨g, hg, hc⟩ : ∃ g, (newF l c)[k]? = some g ∧ castsB (l[k]'hk).k (l[k]'hk).l g.k g.l = true := by
      rw [eF, List.getElem?_modify, hf]
      by_cases hl : atC l c = k
      · refine ⟨⟨(l[k]'hk).s, c.g.k, c.g.l⟩, by simp [hl], ?_⟩
        have := h4 e
        rw [castsAt, hl, hf] at this
        exact this
      · exact ⟨l[k]'hk, by simp [hl], rightF_at hr hf⟩
    rw [okAt_mk (t := tabC l c) (m := ⟨k, Vl.z⟩) (g := g) (by show (newM l c)[k]? = _; rw [eM]; exact kM_get hk) hg]
    exact okMv_keep (by omega) (by show l[((k : Nat) : Int).toNat]? = _; rw [Int.toNat_natCast]; exact hf) hc
  · have eF : newF l c = c.q.map fun n => (l[n.toNat]?).getD Fd.z := by simp [newF, e]
    have eM : newM l c = c.q.map fun n => ⟨n, Vl.z⟩ := by simp [newM, e]
    refine ⟨by rw [eF, eM, List.length_map, List.length_map], fun k hk => ?_⟩
    rw [eM, List.length_map] at hk
    rw [if_neg (by rintro ⟨h, _⟩; omega)]
    have hq : c.q[k]? = some (c.q[k]'hk) := List.getElem?_eq_getElem hk
    obtain ⟨b0, b1⟩ := perm_mem (h5 e) (List.getElem_mem hk)
    have hk' : (c.q[k]'hk).toNat < l.length := by omega
    have hf : l[(c.q[k]'hk).toNat]? = some (l[(c.q[k]'hk).toNat]'hk') := List.getElem?_eq_getElem hk'
    rw [okAt_mk (t := tabC l c) (m := ⟨c.q[k]'hk, Vl.z⟩) (g := l[(c.q[k]'hk).toNat]'hk') (by show (newM l c)[k]? = _; rw [eM, List.getElem?_map, hq]; rfl) (by show (newF l c)[k]? = _; rw [eF, List.getElem?_map, hq]; simp [hf])]
    exact okMv_keep b0 hf (rightF_at hr hf)
/-- the program's last question -/
theorem tabC_right {l : List Fd} {c : Ch} (hr : rightF l = true) (h1 : 1 ≤ c.op ∧ c.op ≤ 5) (h2 : 2 ≤ c.op ∧ c.op ≤ 4 → ¬ findZ l c.s < 0) (h4 : c.op = 4 → castsAt l c = true) (h5 : c.op = 5 → permB c.q l.length = true) :
    rightT (tabC l c) = (rightF (newF l c) && (decide (c.op ≠ 1) || okVal c)) := by
  obtain ⟨hlen, hok⟩ := tabC_ok hr h1 h2 h4 h5
  rw [Bool.eq_iff_iff, rightT_iff, Bool.and_eq_true, Bool.or_eq_true, decide_eq_true_eq]
  constructor
  · rintro ⟨_, h, _, ha⟩
    refine ⟨h, ?_⟩
    by_cases e : c.op = 1
    · have hl : (newM l c).length = l.length + 1 := by simp [newM, e, kM_length]
      have h := ha l.length (by show _ < (newM l c).length; omega)
      rw [hok _ (by omega), if_pos ⟨e, rfl⟩] at h
      exact .inr h
    · exact .inl e
  · rintro ⟨h, ha⟩
    refine ⟨hr, h, hlen, fun k hk => ?_⟩
    rw [hok k hk]
    split
    · rename_i e
      rcases ha with ha | ha
      · exact absurd e.1 ha
      · exact ha
    · rfl
theorem makeE_right {l : List Fd} {c : Ch} (h : makeE l c = 0) : rightT (makeT l c) = true ∧ rightF l = true ∧ rightF (newF l c) = true ∧ makeT l c = tabC l c := by
  have e : makeT l c = tabC l c := by rw [makeT, if_pos h]
  unfold makeE at h
  split at h
  · rename_i hs
    split at h
    · rename_i hf
      unfold stepE at hs
      split at hs; · omega
      rename_i h0
      split at hs; · omega
      rename_i h1
      split at hs; · omega
      rename_i h2
      split at hs; · omega
      rename_i h3
      split at hs; · omega
      rename_i h4
      split at hs; · omega
      rename_i h5
      have hr : rightF l = true := by simpa using h0
      refine ⟨?_, hr, hf, e⟩
      rw [e, tabC_right hr (by omega) (fun h => fun h' => h2 ⟨h.1, h.2, h'⟩) (fun h => Bool.of_not_eq_false fun hc => h4 ⟨h, hc⟩) (fun h => Bool.of_not_eq_false fun hc => h5 ⟨h, hc⟩), hf]
      by_cases e1 : c.op = 1
      · cases hc : okVal c
        · exact absurd ⟨e1, hc⟩ h3
        · simp
      · simp [e1]
    · omega
  · rename_i hs; exact absurd h hs
end Go.Proofs.Ytehcpjodkadfnaa
