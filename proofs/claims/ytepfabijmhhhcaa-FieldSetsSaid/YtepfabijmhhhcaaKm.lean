/- Layer 5's reference, third part: values of bytes. -/
import Derived.Test.YtepfabijmhhhcaaKl
set_option linter.unusedSimpArgs false
set_option linter.unusedVariables false
namespace Go.Proofs.Ytepfabijmhhhcaa
open Go.RowKit

theorem byteZ_nat (n i : Nat) : byteZ (n : Int) i = ((n / 2 ^ (8 * i) % 256 : Nat) : Int) := by
  unfold byteZ
  rw [Int.natCast_emod, Int.natCast_ediv, Int.natCast_pow]
  rfl
theorem byteZ_append (a b : List UInt8) (i : Nat) (hi : i < a.length) : byteZ (numL (a ++ b)) i = byteZ (numL a) i := by
  unfold numL
  rw [byteZ_nat, byteZ_nat, numN_append]
  obtain ⟨d, hd⟩ : ∃ d, 8 * a.length = 8 * i + (8 + d) := ⟨8 * (a.length - i - 1), by omega⟩
  rw [hd, Nat.pow_add, Nat.mul_assoc, Nat.add_mul_div_left _ _ (Nat.two_pow_pos _), Nat.pow_add, Nat.mul_assoc, show (2 : Nat) ^ 8 = 256 from rfl, Nat.add_mul_mod_self_left]
theorem byteZ_last (a : List UInt8) (x : UInt8) : byteZ (numL (a ++ [x])) a.length = x.toNat := by
  unfold numL
  rw [byteZ_nat, numN_append]
  have h1 := numN_lt a
  have h2 := x.toNat_lt
  rw [Nat.add_mul_div_left _ _ (Nat.two_pow_pos _), Nat.div_eq_of_lt h1]
  simp only [numN]
  omega
theorem leL_num (l : List UInt8) : leL (numL l) l.length = l := by
  apply List.ext_getElem (leL_length _ _)
  intro i h1 h2
  have hl : l = (l.take i ++ [l[i]]) ++ l.drop (i + 1) := by simp
  have hti : (l.take i).length = i := by simp; omega
  simp only [leL, List.getElem_map, List.getElem_range]
  have e : byteZ (numL l) i = l[i].toNat := by
    conv => lhs; rw [hl]
    rw [byteZ_append _ _ _ (by simp; omega)]
    have := byteZ_last (l.take i) l[i]
    rwa [hti] at this
  rw [e]; simp
theorem byteZ_sign (n : Int) (w i : Nat) (hw : widthB w = true) (hi : i < w) (h0 : 0 ≤ n) (h1 : n < 18446744073709551616) : byteZ (signZ n w) i = byteZ n i := by
  have hc := width_cases hw
  rcases (by omega : w = 1 ∨ w = 2 ∨ w = 4 ∨ w = 8) with rfl | rfl | rfl | rfl
  · obtain rfl : i = 0 := by omega
    rw [show ((1 : Nat) : Int) = 1 from rfl, signZ_arith1 n h0 h1]
    simp [byteZ]; split <;> omega
  · rw [show ((2 : Nat) : Int) = 2 from rfl, signZ_arith2 n h0 h1]
    rcases (by omega : i = 0 ∨ i = 1) with rfl | rfl <;> simp [byteZ] <;> split <;> omega
  · rw [show ((4 : Nat) : Int) = 4 from rfl, signZ_arith4 n h0 h1]
    rcases (by omega : i = 0 ∨ i = 1 ∨ i = 2 ∨ i = 3) with rfl | rfl | rfl | rfl <;> simp [byteZ] <;> split <;> omega
  · rw [show ((8 : Nat) : Int) = 8 from rfl, signZ_8 n h0 h1]
theorem leL_sign (n : Int) (w : Nat) (hw : widthB w = true) (h0 : 0 ≤ n) (h1 : n < 18446744073709551616) : leL (signZ n w) w = leL n w := by
  apply List.ext_getElem (by simp [leL_length])
  intro i h2 h3
  simp only [leL, List.getElem_map, List.getElem_range]
  rw [byteZ_sign n w i hw (by simpa [leL_length] using h2) h0 h1]

/-- the bits that the reference reads -/
def rdecZ (l : List UInt8) (k : Int) : Int := if k = 12 then 0 else if btw 5 k 8 = true then signZ (getZ l) l.length else getZ l
theorem rdecZ_bd (l : List UInt8) (k : Int) : 0 ≤ rdecZ l k ∧ rdecZ l k < 18446744073709551616 := by
  have := getZ_bd l
  unfold rdecZ
  split
  · omega
  · split
    · exact signZ_bd _ _ this.1 this.2
    · exact this
theorem rdec_ok (l : List UInt8) (k long : Int) : (rightB k (rdecZ l k) (decT l k) k long = true ∧ encL (rdecZ l k) (decT l k) k long = l) ↔ decB l k long = true := by
  unfold decB
  simp only [Bool.and_eq_true, decide_eq_true_eq]
  by_cases hk : k = 12
  · subst hk
    have e1 : rdecZ l 12 = 0 := by simp [rdecZ]
    have e2 : decZ l 12 long = 0 := by simp [decZ, rawZ, btw]
    have e3 : decT l 12 = strL l := by simp [decT]
    rw [e1, e2, e3]
    constructor
    · rintro ⟨h, _⟩
      have hm := right_may h
      refine ⟨?_, h⟩
      rw [long_12 hm.1]
      have := hm.2.2.1
      rw [if_pos rfl, strL_size] at this
      exact this
    · rintro ⟨_, h⟩
      exact ⟨h, by rw [encL, if_pos rfl, bl_strL]⟩
  · have e3 : decT l k = ⟨#[]⟩ := by simp [decT, hk]
    rw [e3]
    by_cases hl : (l.length : Int) = longZ k long
    · have e2 : decZ l k long = rdecZ l k := by
        rw [decZ, rdecZ, if_neg hk]
        have : rawZ l k long = getZ l := by rw [rawZ, if_neg hk, getZ]; simp [hl]
        rw [this]
      rw [e2]
      constructor
      · rintro ⟨h, _⟩; exact ⟨hl, h⟩
      · rintro ⟨_, h⟩
        refine ⟨h, ?_⟩
        have hm := (right_may h).1
        have hlc := long_cases hm hk
        have hwb : widthB l.length = true := by rw [hl]; simp [widthB]; omega
        have hg := getZ_bd l
        have hgz : getZ l = numL l := by rw [getZ, if_pos hwb]
        rw [encL, if_neg hk, ← hl, rdecZ, if_neg hk]
        simp only [Int.toNat_natCast]
        split
        · rw [leL_sign _ _ hwb hg.1 hg.2, hgz, leL_num]
        · rw [hgz, leL_num]
    · constructor
      · rintro ⟨h, he⟩
        exfalso
        apply hl
        have hm := (right_may h).1
        have hlc := long_cases hm hk
        rw [encL, if_neg hk] at he
        have := congrArg List.length he
        rw [leL_length] at this
        omega
      · rintro ⟨h, _⟩; exact absurd h hl
theorem rdec_val {l : List UInt8} {k long : Int} (h : decB l k long = true) : decZ l k long = rdecZ l k := by
  by_cases hk : k = 12
  · subst hk; simp [rdecZ, decZ, rawZ, btw]
  · unfold decB at h
    simp only [Bool.and_eq_true, decide_eq_true_eq] at h
    rw [decZ, rdecZ, if_neg hk]
    have : rawZ l k long = getZ l := by rw [rawZ, if_neg hk, getZ]; simp [h.1]
    rw [this]

theorem rEncode_is (vk bits : Int) (tx s : ByteArray) (k l : Int) (h0 : 0 ≤ bits) (h1 : bits < 18446744073709551616) (r : ByteArray) (q : Int) (hr : encS vk bits tx k l = r) (hq : encE vk bits tx k l = q) (w : World) :
    Calls Try.prog 47 #[.agg #[.int .i64 vk, .int .u64 bits, .string tx], .agg #[.string s, .int .i64 k, .int .i64 l]] w fun e w' => e = .returned (.tuple #[.string r, .int .i64 q]) ∧ Below w.heap.size w w' := by
  subst hr hq; exact rEncode_calls vk bits tx s k l h0 h1 w
theorem rSign_is (n width : Int) (h0 : 0 ≤ n) (h1 : n < 18446744073709551616) (r : Int) (h : signZ n width = r) (w : World) : Calls Try.prog 58 #[.int .u64 n, .int .i64 width] w fun e w' => e = .returned (.int .u64 r) ∧ w = w' := h ▸ rSign_calls n width h0 h1 w
theorem rGet_is (s : ByteArray) (hs : s.size ≤ 9223372036854775807) (r : Int) (h : getZ (bl s) = r) (w : World) :
    Calls Try.prog 57 #[.string s, .int .i64 0, .int .i64 (s.size : Int)] w fun e w' => e = .returned (.tuple #[.int .u64 r, .bool (widthB s.size)]) ∧ w = w' := by
  subst h
  by_cases hb : widthB s.size = true
  · have := rGet_some s 0 s.size w (width_nat hb) hb (by omega) hs
    rw [getZ, bl_length, if_pos hb, hb]
    simpa [List.take_of_length_le (show (bl s).length ≤ s.size by rw [bl_length]; exact Nat.le_refl _)] using this
  · rw [Bool.not_eq_true] at hb
    rw [getZ, bl_length, hb, if_neg (by simp)]
    exact rGet_none s 0 s.size w hs (.inl hb)

set_option maxHeartbeats 1600000 in
theorem rDecode_calls (s n : ByteArray) (k long : Int) (hs : s.size ≤ 9223372036854775807) (w : World) :
    Calls Try.prog 44 #[.string s, .agg #[.string n, .int .i64 k, .int .i64 long]] w fun e w' => e = .returned (.tuple #[decV (bl s) k long, .int .i64 (decE (bl s) k long)]) ∧ Below w.heap.size w w' := by
  have hok := rdec_ok (bl s) k long
  have hval := @rdec_val (bl s) k long
  obtain ⟨d0, d1⟩ := rdecZ_bd (bl s) k
  obtain ⟨g0, g1⟩ := getZ_bd (bl s)
  have hss := setCell_twice
  have HB : Below w.heap.size w ((w.alloc (.cells #[.string n, .int .i64 k, .int .i64 long] 40)).alloc (.cells #[.int .i64 0, .int .u64 0, .string ⟨#[]⟩] 37)) := (below_new _).alloc (by simp) _
  obtain ⟨es, hes⟩ : ∃ r, encS k (rdecZ (bl s) k) (decT (bl s) k) k long = r := ⟨_, rfl⟩
  obtain ⟨ee, hee⟩ : ∃ r, encE k (rdecZ (bl s) k) (decT (bl s) k) k long = r := ⟨_, rfl⟩
  obtain ⟨ok, hdec⟩ : ∃ r, decB (bl s) k long = r := ⟨_, rfl⟩
  -- the two tests
  have htest : (ee = 0 ∧ es.toList = s.toList) ↔ ok = true := by
    rw [← hdec, ← hok, ← hes, ← hee, encS, encE]
    by_cases hr : rightB k (rdecZ (bl s) k) (decT (bl s) k) k long = true
    · rw [if_pos hr, if_pos hr]
      simp only [hr, true_and, ByteArray.toList_eq]
      rw [show (strL (encL (rdecZ (bl s) k) (decT (bl s) k) k long)).data.toList = encL (rdecZ (bl s) k) (decT (bl s) k) k long by simp [strL]]
      rfl
    · rw [if_neg hr, if_neg hr]; simp [hr]
  have hee2 : ee = 0 ∨ ee = 50 := by rw [← hee, encE]; split <;> simp
  have HF := Lib.hid hee
  have HE := Lib.hid hes
  -- which answer
  have hout : (ok = true ∧ ee = 0 ∧ (!es.toList == s.toList) = false) ∨ (ok = false ∧ ee = 50) ∨ (ok = false ∧ ee = 0 ∧ (!es.toList == s.toList) = true) := by
    cases ok
    · rcases hee2 with h | h
      · refine .inr (.inr ⟨rfl, h, ?_⟩)
        have : ¬ es.toList = s.toList := fun hh => by have := htest.1 ⟨h, hh⟩; cases this
        simpa using this
      · exact .inr (.inl ⟨rfl, h⟩)
    · have := htest.2 rfl
      exact .inl ⟨rfl, this.1, by simpa using this.2⟩
  have hkt : (k = 12 ∧ decT (bl s) k = s ∧ rdecZ (bl s) k = 0) ∨ ((k == 12) = false ∧ decT (bl s) k = ⟨#[]⟩ ∧ ((btw 5 k 8 = true ∧ signZ (getZ (bl s)) s.size = rdecZ (bl s) k) ∨ (btw 5 k 8 = false ∧ getZ (bl s) = rdecZ (bl s) k))) := by
    by_cases hk : k = 12
    · exact .inl ⟨hk, by rw [decT, if_pos hk, strL_bl], by rw [rdecZ, if_pos hk]⟩
    · refine .inr ⟨by simpa using hk, by rw [decT, if_neg hk], ?_⟩
      cases hb : btw 5 k 8
      · exact .inr ⟨rfl, by rw [rdecZ, if_neg hk, hb]; rfl⟩
      · exact .inl ⟨rfl, by rw [rdecZ, if_neg hk, hb, bl_length]; rfl⟩
  have hfin : ok = true → (decV (bl s) k long = .agg #[.int .i64 k, .int .u64 (rdecZ (bl s) k), .string (decT (bl s) k)] ∧ decE (bl s) k long = 0) := by
    intro h
    have := decV_ok (hdec.trans h)
    rwa [hval (hdec.trans h)] at this
  have hfin2 : ok = false → (decV (bl s) k long = .agg #[.int .i64 0, .int .u64 0, .string ⟨#[]⟩] ∧ decE (bl s) k long = 50) := fun h => decV_no (hdec.trans h)
  clear hok hval htest hee2 hdec hes hee
  obtain ⟨dz, hdz⟩ : ∃ z, rdecZ (bl s) k = z := ⟨_, rfl⟩
  obtain ⟨dt, hdt⟩ : ∃ z, decT (bl s) k = z := ⟨_, rfl⟩
  obtain ⟨gz, hgz⟩ : ∃ z, getZ (bl s) = z := ⟨_, rfl⟩
  obtain ⟨dv, hdv⟩ : ∃ z, decV (bl s) k long = z := ⟨_, rfl⟩
  obtain ⟨de, hde⟩ : ∃ z, decE (bl s) k long = z := ⟨_, rfl⟩
  rw [hdv, hde] at hfin hfin2
  rw [hdv, hde]
  rw [hdz, hdt] at hkt hfin HE HF
  rw [hdz] at d0 d1
  rw [hgz] at hkt g0 g1
  have HG := Lib.hid hgz
  clear hdz hdt hgz hdv hde
  have hb12 : ∀ (W : World), True := fun _ => trivial
  rcases hkt with ⟨rfl, rfl, rfl⟩ | ⟨hk, rfl, ⟨hb, hz⟩ | ⟨hb, hz⟩⟩
  · rcases hout with ⟨ho, rfl, ht⟩ | ⟨ho, rfl⟩ | ⟨ho, rfl, ht⟩
    · obtain ⟨rfl, rfl⟩ := hfin ho
      clear hfin hfin2 hb12
      go_enter Try.func44, Try.ntmps44
      go_wp2_with (first
        | (go_at_call 47; refine (rEncode_is _ _ _ _ _ _ d0 d1 _ _ HE.out HF.out _).mono ?_; rintro e w1 ⟨rfl, hb⟩; obtain ⟨hc, hf⟩ := bcell hb; obtain ⟨z0, z1, z2⟩ : w.heap.size < w1.heap.size ∧ w.heap.size + 1 < w1.heap.size ∧ w.heap.size + 1 + 1 < w1.heap.size := (by have hz_ := hb.size; (try simp at hz_); omega); have n_ : Below w.heap.size w _ := below_seq (by repeat (first | exact HB | refine Below.setCell ?_ (by dsimp only; omega) _ | refine Below.alloc ?_ (by have hs_ := HB.size; first | (simp; done) | (simp; omega) | omega) _ | apply Below.drew)) hb; clear HB; have HB := n_; clear n_))
      refine bodyPost_ret (v := .tuple #[.agg #[.int .i64 12, .int .u64 0, .string dt], .int .i64 0]) (by simp [results, Try.results44, go_sem, *]; done) rfl ⟨rfl, ?_⟩
      (repeat (first | exact HB | refine Below.setCell ?_ (by dsimp only; omega) _ | refine Below.alloc ?_ (by have hs_ := HB.size; first | (simp; done) | (simp; omega) | omega) _ | apply Below.drew))
    · obtain ⟨rfl, rfl⟩ := hfin2 ho
      clear hfin hfin2 hb12
      go_enter Try.func44, Try.ntmps44
      go_wp2_with (first
        | (go_at_call 47; refine (rEncode_is _ _ _ _ _ _ d0 d1 _ _ HE.out HF.out _).mono ?_; rintro e w1 ⟨rfl, hb⟩; obtain ⟨hc, hf⟩ := bcell hb; obtain ⟨z0, z1, z2⟩ : w.heap.size < w1.heap.size ∧ w.heap.size + 1 < w1.heap.size ∧ w.heap.size + 1 + 1 < w1.heap.size := (by have hz_ := hb.size; (try simp at hz_); omega); have n_ : Below w.heap.size w _ := below_seq (by repeat (first | exact HB | refine Below.setCell ?_ (by dsimp only; omega) _ | refine Below.alloc ?_ (by have hs_ := HB.size; first | (simp; done) | (simp; omega) | omega) _ | apply Below.drew)) hb; clear HB; have HB := n_; clear n_))
      refine bodyPost_ret (v := .tuple #[.agg #[.int .i64 0, .int .u64 0, .string (⟨#[]⟩ : ByteArray)], .int .i64 50]) (by simp [results, Try.results44, go_sem, *]; done) rfl ⟨rfl, ?_⟩
      (repeat (first | exact HB | refine Below.setCell ?_ (by dsimp only; omega) _ | refine Below.alloc ?_ (by have hs_ := HB.size; first | (simp; done) | (simp; omega) | omega) _ | apply Below.drew))
    · obtain ⟨rfl, rfl⟩ := hfin2 ho
      clear hfin hfin2 hb12
      go_enter Try.func44, Try.ntmps44
      go_wp2_with (first
        | (go_at_call 47; refine (rEncode_is _ _ _ _ _ _ d0 d1 _ _ HE.out HF.out _).mono ?_; rintro e w1 ⟨rfl, hb⟩; obtain ⟨hc, hf⟩ := bcell hb; obtain ⟨z0, z1, z2⟩ : w.heap.size < w1.heap.size ∧ w.heap.size + 1 < w1.heap.size ∧ w.heap.size + 1 + 1 < w1.heap.size := (by have hz_ := hb.size; (try simp at hz_); omega); have n_ : Below w.heap.size w _ := below_seq (by repeat (first | exact HB | refine Below.setCell ?_ (by dsimp only; omega) _ | refine Below.alloc ?_ (by have hs_ := HB.size; first | (simp; done) | (simp; omega) | omega) _ | apply Below.drew)) hb; clear HB; have HB := n_; clear n_))
      refine bodyPost_ret (v := .tuple #[.agg #[.int .i64 0, .int .u64 0, .string (⟨#[]⟩ : ByteArray)], .int .i64 50]) (by simp [results, Try.results44, go_sem, *]; done) rfl ⟨rfl, ?_⟩
      (repeat (first | exact HB | refine Below.setCell ?_ (by dsimp only; omega) _ | refine Below.alloc ?_ (by have hs_ := HB.size; first | (simp; done) | (simp; omega) | omega) _ | apply Below.drew))
  · have HZ := Lib.hid hz
    have hkk : (4 < k ∧ k < 9) := by have := btw_iff.1 hb; omega
    obtain ⟨k4, k9⟩ := hkk
    clear hz hb
    rcases hout with ⟨ho, rfl, ht⟩ | ⟨ho, rfl⟩ | ⟨ho, rfl, ht⟩
    · obtain ⟨rfl, rfl⟩ := hfin ho
      clear hfin hfin2 hb12
      go_enter Try.func44, Try.ntmps44
      go_wp2_with (first
        | (go_at_call 57; refine (rGet_is _ hs _ HG.out _).mono ?_; rintro e w' ⟨rfl, rfl⟩)
        | (go_at_call 58; refine (rSign_is _ _ g0 g1 _ HZ.out _).mono ?_; rintro e w' ⟨rfl, rfl⟩)
        | (go_at_call 47; refine (rEncode_is _ _ _ _ _ _ d0 d1 _ _ HE.out HF.out _).mono ?_; rintro e w1 ⟨rfl, hb⟩; obtain ⟨hc, hf⟩ := bcell hb; obtain ⟨z0, z1, z2⟩ : w.heap.size < w1.heap.size ∧ w.heap.size + 1 < w1.heap.size ∧ w.heap.size + 1 + 1 < w1.heap.size := (by have hz_ := hb.size; (try simp at hz_); omega); have n_ : Below w.heap.size w _ := below_seq (by repeat (first | exact HB | refine Below.setCell ?_ (by dsimp only; omega) _ | refine Below.alloc ?_ (by have hs_ := HB.size; first | (simp; done) | (simp; omega) | omega) _ | apply Below.drew)) hb; clear HB; have HB := n_; clear n_))
      refine bodyPost_ret (v := .tuple #[.agg #[.int .i64 k, .int .u64 dz, .string (⟨#[]⟩ : ByteArray)], .int .i64 0]) (by simp [results, Try.results44, go_sem, *]; done) rfl ⟨rfl, ?_⟩
      (repeat (first | exact HB | refine Below.setCell ?_ (by dsimp only; omega) _ | refine Below.alloc ?_ (by have hs_ := HB.size; first | (simp; done) | (simp; omega) | omega) _ | apply Below.drew))
    · obtain ⟨rfl, rfl⟩ := hfin2 ho
      clear hfin hfin2 hb12
      go_enter Try.func44, Try.ntmps44
      go_wp2_with (first
        | (go_at_call 57; refine (rGet_is _ hs _ HG.out _).mono ?_; rintro e w' ⟨rfl, rfl⟩)
        | (go_at_call 58; refine (rSign_is _ _ g0 g1 _ HZ.out _).mono ?_; rintro e w' ⟨rfl, rfl⟩)
        | (go_at_call 47; refine (rEncode_is _ _ _ _ _ _ d0 d1 _ _ HE.out HF.out _).mono ?_; rintro e w1 ⟨rfl, hb⟩; obtain ⟨hc, hf⟩ := bcell hb; obtain ⟨z0, z1, z2⟩ : w.heap.size < w1.heap.size ∧ w.heap.size + 1 < w1.heap.size ∧ w.heap.size + 1 + 1 < w1.heap.size := (by have hz_ := hb.size; (try simp at hz_); omega); have n_ : Below w.heap.size w _ := below_seq (by repeat (first | exact HB | refine Below.setCell ?_ (by dsimp only; omega) _ | refine Below.alloc ?_ (by have hs_ := HB.size; first | (simp; done) | (simp; omega) | omega) _ | apply Below.drew)) hb; clear HB; have HB := n_; clear n_))
      refine bodyPost_ret (v := .tuple #[.agg #[.int .i64 0, .int .u64 0, .string (⟨#[]⟩ : ByteArray)], .int .i64 50]) (by simp [results, Try.results44, go_sem, *]; done) rfl ⟨rfl, ?_⟩
      (repeat (first | exact HB | refine Below.setCell ?_ (by dsimp only; omega) _ | refine Below.alloc ?_ (by have hs_ := HB.size; first | (simp; done) | (simp; omega) | omega) _ | apply Below.drew))
    · obtain ⟨rfl, rfl⟩ := hfin2 ho
      clear hfin hfin2 hb12
      go_enter Try.func44, Try.ntmps44
      go_wp2_with (first
        | (go_at_call 57; refine (rGet_is _ hs _ HG.out _).mono ?_; rintro e w' ⟨rfl, rfl⟩)
        | (go_at_call 58; refine (rSign_is _ _ g0 g1 _ HZ.out _).mono ?_; rintro e w' ⟨rfl, rfl⟩)
        | (go_at_call 47; refine (rEncode_is _ _ _ _ _ _ d0 d1 _ _ HE.out HF.out _).mono ?_; rintro e w1 ⟨rfl, hb⟩; obtain ⟨hc, hf⟩ := bcell hb; obtain ⟨z0, z1, z2⟩ : w.heap.size < w1.heap.size ∧ w.heap.size + 1 < w1.heap.size ∧ w.heap.size + 1 + 1 < w1.heap.size := (by have hz_ := hb.size; (try simp at hz_); omega); have n_ : Below w.heap.size w _ := below_seq (by repeat (first | exact HB | refine Below.setCell ?_ (by dsimp only; omega) _ | refine Below.alloc ?_ (by have hs_ := HB.size; first | (simp; done) | (simp; omega) | omega) _ | apply Below.drew)) hb; clear HB; have HB := n_; clear n_))
      refine bodyPost_ret (v := .tuple #[.agg #[.int .i64 0, .int .u64 0, .string (⟨#[]⟩ : ByteArray)], .int .i64 50]) (by simp [results, Try.results44, go_sem, *]; done) rfl ⟨rfl, ?_⟩
      (repeat (first | exact HB | refine Below.setCell ?_ (by dsimp only; omega) _ | refine Below.alloc ?_ (by have hs_ := HB.size; first | (simp; done) | (simp; omega) | omega) _ | apply Below.drew))
  · subst hz
    have HZ : Hid (signZ gz s.size = signZ gz s.size) := Lib.hid rfl
    have hkk : k ≤ 4 ∨ (4 < k ∧ 9 ≤ k) := by have := btw_not.1 hb; omega
    clear hb
    rcases hkk with k4 | ⟨k4, k9⟩
    all_goals
      rcases hout with ⟨ho, rfl, ht⟩ | ⟨ho, rfl⟩ | ⟨ho, rfl, ht⟩
      · obtain ⟨rfl, rfl⟩ := hfin ho
        clear hfin hfin2 hb12
        go_enter Try.func44, Try.ntmps44
        go_wp2_with (first
          | (go_at_call 57; refine (rGet_is _ hs _ HG.out _).mono ?_; rintro e w' ⟨rfl, rfl⟩)
          | (go_at_call 58; refine (rSign_is _ _ g0 g1 _ HZ.out _).mono ?_; rintro e w' ⟨rfl, rfl⟩)
          | (go_at_call 47; refine (rEncode_is _ _ _ _ _ _ d0 d1 _ _ HE.out HF.out _).mono ?_; rintro e w1 ⟨rfl, hb⟩; obtain ⟨hc, hf⟩ := bcell hb; obtain ⟨z0, z1, z2⟩ : w.heap.size < w1.heap.size ∧ w.heap.size + 1 < w1.heap.size ∧ w.heap.size + 1 + 1 < w1.heap.size := (by have hz_ := hb.size; (try simp at hz_); omega); have n_ : Below w.heap.size w _ := below_seq (by repeat (first | exact HB | refine Below.setCell ?_ (by dsimp only; omega) _ | refine Below.alloc ?_ (by have hs_ := HB.size; first | (simp; done) | (simp; omega) | omega) _ | apply Below.drew)) hb; clear HB; have HB := n_; clear n_))
        refine bodyPost_ret (v := .tuple #[.agg #[.int .i64 k, .int .u64 gz, .string (⟨#[]⟩ : ByteArray)], .int .i64 0]) (by simp [results, Try.results44, go_sem, *]; done) rfl ⟨rfl, ?_⟩
        (repeat (first | exact HB | refine Below.setCell ?_ (by dsimp only; omega) _ | refine Below.alloc ?_ (by have hs_ := HB.size; first | (simp; done) | (simp; omega) | omega) _ | apply Below.drew))
      · obtain ⟨rfl, rfl⟩ := hfin2 ho
        clear hfin hfin2 hb12
        go_enter Try.func44, Try.ntmps44
        go_wp2_with (first
          | (go_at_call 57; refine (rGet_is _ hs _ HG.out _).mono ?_; rintro e w' ⟨rfl, rfl⟩)
          | (go_at_call 58; refine (rSign_is _ _ g0 g1 _ HZ.out _).mono ?_; rintro e w' ⟨rfl, rfl⟩)
          | (go_at_call 47; refine (rEncode_is _ _ _ _ _ _ d0 d1 _ _ HE.out HF.out _).mono ?_; rintro e w1 ⟨rfl, hb⟩; obtain ⟨hc, hf⟩ := bcell hb; obtain ⟨z0, z1, z2⟩ : w.heap.size < w1.heap.size ∧ w.heap.size + 1 < w1.heap.size ∧ w.heap.size + 1 + 1 < w1.heap.size := (by have hz_ := hb.size; (try simp at hz_); omega); have n_ : Below w.heap.size w _ := below_seq (by repeat (first | exact HB | refine Below.setCell ?_ (by dsimp only; omega) _ | refine Below.alloc ?_ (by have hs_ := HB.size; first | (simp; done) | (simp; omega) | omega) _ | apply Below.drew)) hb; clear HB; have HB := n_; clear n_))
        refine bodyPost_ret (v := .tuple #[.agg #[.int .i64 0, .int .u64 0, .string (⟨#[]⟩ : ByteArray)], .int .i64 50]) (by simp [results, Try.results44, go_sem, *]; done) rfl ⟨rfl, ?_⟩
        (repeat (first | exact HB | refine Below.setCell ?_ (by dsimp only; omega) _ | refine Below.alloc ?_ (by have hs_ := HB.size; first | (simp; done) | (simp; omega) | omega) _ | apply Below.drew))
      · obtain ⟨rfl, rfl⟩ := hfin2 ho
        clear hfin hfin2 hb12
        go_enter Try.func44, Try.ntmps44
        go_wp2_with (first
          | (go_at_call 57; refine (rGet_is _ hs _ HG.out _).mono ?_; rintro e w' ⟨rfl, rfl⟩)
          | (go_at_call 58; refine (rSign_is _ _ g0 g1 _ HZ.out _).mono ?_; rintro e w' ⟨rfl, rfl⟩)
          | (go_at_call 47; refine (rEncode_is _ _ _ _ _ _ d0 d1 _ _ HE.out HF.out _).mono ?_; rintro e w1 ⟨rfl, hb⟩; obtain ⟨hc, hf⟩ := bcell hb; obtain ⟨z0, z1, z2⟩ : w.heap.size < w1.heap.size ∧ w.heap.size + 1 < w1.heap.size ∧ w.heap.size + 1 + 1 < w1.heap.size := (by have hz_ := hb.size; (try simp at hz_); omega); have n_ : Below w.heap.size w _ := below_seq (by repeat (first | exact HB | refine Below.setCell ?_ (by dsimp only; omega) _ | refine Below.alloc ?_ (by have hs_ := HB.size; first | (simp; done) | (simp; omega) | omega) _ | apply Below.drew)) hb; clear HB; have HB := n_; clear n_))
        refine bodyPost_ret (v := .tuple #[.agg #[.int .i64 0, .int .u64 0, .string (⟨#[]⟩ : ByteArray)], .int .i64 50]) (by simp [results, Try.results44, go_sem, *]; done) rfl ⟨rfl, ?_⟩
        (repeat (first | exact HB | refine Below.setCell ?_ (by dsimp only; omega) _ | refine Below.alloc ?_ (by have hs_ := HB.size; first | (simp; done) | (simp; omega) | omega) _ | apply Below.drew))
end Go.Proofs.Ytepfabijmhhhcaa
