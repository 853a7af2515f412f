/- Merged out of: Kx Hw Hc. -/
import Derived.Test.YtehcpjodkadfnaaGreatUh
import Derived.Test.YtehcpjodkadfnaaGreatUm
/- Layer 5 of the heap, kinds, in plain words: what was written is read as it was; zero is right. -/
set_option linter.unusedSimpArgs false
set_option linter.unusedVariables false
set_option maxRecDepth 100000
namespace Go.Proofs.YtehcpjodkadfnaaGreat
open Go.RowKit

theorem enc_length {vk bits : Int} {tx : ByteArray} {k l : Int} (hr : rightB vk bits tx k l = true) : ((encL bits tx k l).length : Int) = longZ k l := by
  obtain ⟨hm, rfl, ht, hf⟩ := right_may hr
  unfold encL
  split
  · rename_i h
    subst h
    rw [long_12 hm, bl_length]
    simpa using ht
  · rename_i h
    rw [leL_length]
    have := long_cases hm h
    omega
theorem num_leL (m w : Nat) : numN (leL (m : Int) w) = m % 2 ^ (8 * w) := by
  induction w with
  | zero => simp [leL, numN, Nat.mod_one]
  | succ w ih =>
    rw [leL_succ, numN_append, leL_length, ih, byteZ_nat, Nat.mul_add, Nat.pow_add, Nat.mod_mul]
    have e : numN [UInt8.ofNat ((m / 2 ^ (8 * w) % 256 : Nat) : Int).toNat] = m / 2 ^ (8 * w) % 256 := by
      have hx : m / 2 ^ (8 * w) % 256 < 256 := Nat.mod_lt _ (by decide)
      generalize m / 2 ^ (8 * w) % 256 = x at hx ⊢
      rw [Int.toNat_natCast]
      simp [numN]; omega
    rw [e]
theorem num_enc (n : Int) (w : Nat) (h0 : 0 ≤ n) : numL (leL n w) = n % ((2 ^ (8 * w) : Nat) : Int) := by
  obtain ⟨m, rfl⟩ := Int.eq_ofNat_of_zero_le h0
  rw [numL, num_leL]; rfl
theorem sign_mod (n : Int) (w : Nat) (hw : widthB w = true) (h0 : 0 ≤ n) (h1 : n < 18446744073709551616) : signZ (n % ((2 ^ (8 * w) : Nat) : Int)) w = signZ n w := by
  have hc := width_cases hw
  rcases (by omega : w = 1 ∨ w = 2 ∨ w = 4 ∨ w = 8) with rfl | rfl | rfl | rfl
  · rw [show ((1 : Nat) : Int) = 1 from rfl, show ((2 ^ (8 * 1) : Nat) : Int) = 256 by decide, signZ_arith1 n h0 h1, signZ_arith1 _ (by omega) (by omega)]
    simp
  · rw [show ((2 : Nat) : Int) = 2 from rfl, show ((2 ^ (8 * 2) : Nat) : Int) = 65536 by decide, signZ_arith2 n h0 h1, signZ_arith2 _ (by omega) (by omega)]
    simp
  · rw [show ((4 : Nat) : Int) = 4 from rfl, show ((2 ^ (8 * 4) : Nat) : Int) = 4294967296 by decide, signZ_arith4 n h0 h1, signZ_arith4 _ (by omega) (by omega)]
    simp
  · rw [show ((8 : Nat) : Int) = 8 from rfl, show ((2 ^ (8 * 8) : Nat) : Int) = 18446744073709551616 by decide, Int.emod_eq_of_lt h0 h1]
theorem dec_enc {vk bits : Int} {tx : ByteArray} {k l : Int} (h0 : 0 ≤ bits) (h1 : bits < 18446744073709551616) (hr : rightB vk bits tx k l = true) :
    vk = k ∧ decZ (encL bits tx k l) k l = bits ∧ decT (encL bits tx k l) k = tx ∧ decB (encL bits tx k l) k l = true := by
  have hlen := enc_length hr
  obtain ⟨hm, rfl, ht, hf⟩ := right_may hr
  have key : decZ (encL bits tx vk l) vk l = bits ∧ decT (encL bits tx vk l) vk = tx := by
    by_cases hk : vk = 12
    · subst hk
      have hb : bits = 0 := by simpa [fitB] using hf
      subst hb
      refine ⟨by simp [decZ, rawZ, btw], ?_⟩
      rw [decT, encL, if_pos rfl, if_pos rfl, strL_bl]
    · have hlc := long_cases hm hk
      have htx : tx = ⟨#[]⟩ := by
        rw [if_neg hk] at ht
        have : tx.size = 0 := by omega
        obtain ⟨a⟩ := tx
        have : a = #[] := Array.eq_empty_of_size_eq_zero this
        rw [this]
      refine ⟨?_, by rw [decT, if_neg hk, htx]⟩
      have hwb : widthB (longZ vk l) = true := by simp [widthB]; omega
      obtain ⟨W, hW⟩ : ∃ W : Nat, longZ vk l = W := ⟨(longZ vk l).toNat, by omega⟩
      rw [hW] at hlc hwb hlen
      have he : encL bits tx vk l = leL bits W := by rw [encL, if_neg hk, hW]; rfl
      rw [he] at hlen ⊢
      have hraw : rawZ (leL bits W) vk l = bits % ((2 ^ (8 * W) : Nat) : Int) := by
        rw [rawZ, if_neg hk, leL_length, hW, if_pos ⟨rfl, hwb⟩, num_enc _ _ h0]
      rw [decZ, hraw, leL_length]
      rw [fitB, if_neg hk] at hf
      split
      · rename_i h5
        have h5' := btw_iff.1 h5
        rw [if_neg (by omega), hW, h5] at hf
        rw [sign_mod _ _ hwb h0 h1]
        simpa [fitsB, hwb, show ¬ vk = 10 by omega, show ¬ vk = 11 by omega] using hf
      · rename_i h5
        have h5 : btw 5 vk 8 = false := by simpa using h5
        have hlt : bits < ((2 ^ (8 * W) : Nat) : Int) := by
          split at hf
          · have : bits ≤ 1 := by simpa using hf
            rcases (by omega : W = 1 ∨ W = 2 ∨ W = 4 ∨ W = 8) with rfl | rfl | rfl | rfl <;> simp <;> omega
          · rw [hW, h5] at hf
            have hsz : vk = 10 ∨ vk = 11 → W = 8 := fun h => by
              have hW' := hW
              rw [longZ, if_pos hm, if_neg hk] at hW'
              rcases h with rfl | rfl
              · have : sizeZ 10 = 8 := by decide
                omega
              · have : sizeZ 11 = 8 := by decide
                omega
            simp only [fitsB, hwb, Bool.true_and, Bool.false_eq_true, if_false, Bool.or_eq_true, decide_eq_true_eq] at hf
            rcases (by omega : W = 1 ∨ W = 2 ∨ W = 4 ∨ W = 8) with rfl | rfl | rfl | rfl <;> simp [topZ] at hf ⊢ <;> omega
        exact Int.emod_eq_of_lt h0 hlt
  refine ⟨rfl, key.1, key.2, ?_⟩
  rw [decB, key.1, key.2, hr, hlen]
  simp
theorem enc_dec {l : List UInt8} {k long : Int} (h : decB l k long = true) : rightB k (decZ l k long) (decT l k) k long = true ∧ encL (decZ l k long) (decT l k) k long = l := by
  rw [rdec_val h]; exact (rdec_ok l k long).2 h
-- WALK
def encQ (vk bits : Int) (tx : ByteArray) (k l : Int) : List UInt8 := if rightB vk bits tx k l = true then encL bits tx k l else []
theorem sizeZ_val {k : Int} (h : mayB k 0 = true) (hk : ¬ k = 12) : longZ k 0 = sizeZ k := by
  rw [longZ, if_pos h, if_neg hk]
/-- what fits a plain or signed field of some width fits one that is wider -/
theorem long_width {k : Int} (h : mayB k 0 = true) (hk : ¬ k = 12) : widthB (longZ k 0) = true := by
  have := long_cases h hk
  simp [widthB]; omega
theorem bit_fits {n w : Int} {s : Bool} (h0 : 0 ≤ n) (h : n ≤ 1) (hw : widthB w = true) : fitsB n w s = true := by
  simp only [fitsB, Bool.and_eq_true]
  refine ⟨hw, ?_⟩
  have hc := width_cases hw
  have hn : n = 0 ∨ n = 1 := by omega
  cases s
  · simp
    rcases hc with rfl | rfl | rfl | rfl <;> simp [topZ] <;> omega
  · simp
    rcases hn with rfl | rfl <;> rcases hc with rfl | rfl | rfl | rfl <;> decide
theorem leL_zero (w : Nat) : leL 0 w = List.replicate w 0 := by
  induction w with
  | zero => rfl
  | succ w ih => rw [leL_succ, ih, List.replicate_succ', show (byteZ 0 w).toNat = 0 by simp [byteZ]]; rfl
theorem zero_right {k l : Int} (h : mayB k l = true) : ∃ n : Nat, longZ k l = n ∧ 0 < n ∧ n ≤ 64 ∧ rightB k 0 (zeroL k l) k l = true ∧ encL 0 (zeroL k l) k l = List.replicate n 0 := by
  by_cases hk : k = 12
  · subst hk
    have hb := btw_iff.1 (mayB_12 ▸ h)
    refine ⟨l.toNat, by rw [long_12 h]; omega, by omega, by omega, ?_, ?_⟩
    · have hs : ((zeroL 12 l).size : Int) = l := by rw [zeroL, if_pos rfl, strL_size, List.length_replicate]; omega
      simp only [rightB, h, hs, if_true, decide_true, Bool.and_true, Bool.true_and]
      simp [fitB]
    · rw [encL, if_pos rfl, zeroL, if_pos rfl, bl_strL]
  · have hlc := long_cases h hk
    have hl0 := (mayB_of h hk).1
    subst hl0
    have hw := long_width h hk
    refine ⟨(longZ k 0).toNat, by omega, by omega, by omega, ?_, ?_⟩
    · have hz : zeroL k 0 = ⟨#[]⟩ := by rw [zeroL, if_neg hk]
      have hf : fitB 0 k 0 = true := by
        rw [fitB, if_neg hk]
        split
        · rfl
        · rw [bit_fits (by decide) (by decide) hw]; rfl
      rw [hz]
      simp only [rightB, h, hf, if_neg hk, decide_true, Bool.and_true, Bool.true_and]
      rfl
    · rw [encL, if_neg hk, leL_zero]

end Go.Proofs.YtehcpjodkadfnaaGreat
/- FieldNew, walked: it tells true. -/
set_option linter.unusedSimpArgs false
set_option linter.unusedVariables false
set_option maxRecDepth 100000
namespace Go.Proofs.YtehcpjodkadfnaaGreat
open Go.RowKit

theorem loc_name {fs : List Fd} (hr : rightF fs = true) {k : Nat} {f : Fd} (hf : fs[k]? = some f) {n : Nat} (hn : n = sizeF fs) : ∃ at_, (layL fs)[k]? = some at_ ∧ locF fs n f.s = .inr (at_, f) := by
  obtain ⟨_, _, hz⟩ := rightF_ok hr hf
  have hk := (List.getElem?_eq_some_iff.1 hf).1
  have hk2 : k < (layL fs).length := by rw [layL_length hr]; exact hk
  refine ⟨(layL fs)[k], List.getElem?_eq_getElem hk2, ?_⟩
  rw [locF, hr, decide_eq_true hn]
  simp only [Bool.and_true, if_true]
  rw [hz, if_neg (by omega)]
  simp only [Int.toNat_natCast, List.getD_eq_getElem?_getD, hf, List.getElem?_eq_getElem hk2, Option.getD_some]
theorem dec_zero {f : Fd} (h : mayB f.k f.l = true) : decF (List.replicate f.n 0) f = ⟨f.k, 0, zeroL f.k f.l⟩ ∧ decE (List.replicate f.n 0) f.k f.l = 0 := by
  obtain ⟨n, hn, _, _, hr, he⟩ := zero_right h
  have : n = f.n := by have := f.n_eq; omega
  subst this
  obtain ⟨_, h2, h3, h4⟩ := dec_enc (by omega) (by omega) hr
  rw [he] at h2 h3 h4
  refine ⟨?_, by simp [decE, h4]⟩
  rw [decF, if_pos h4, h2, h3]
theorem get_new {fs : List Fd} (hr : rightF fs = true) {k : Nat} {f : Fd} (hf : fs[k]? = some f) {z : Nat} (hz : sizeF fs = z) : getV (List.replicate z 0) fs f.s = ⟨f.k, 0, zeroL f.k f.l⟩ ∧ getE (List.replicate z 0) fs f.s = 0 := by
  obtain ⟨at_, _, hl⟩ := loc_name hr hf (n := z) hz.symm
  obtain ⟨hm, hin, _, _⟩ := loc_in hl
  have e : ((List.replicate z (0 : UInt8)).drop at_).take f.n = List.replicate f.n 0 := by
    rw [List.drop_replicate, List.take_replicate]; congr 1; omega
  have hl2 : locF fs (List.replicate z (0 : UInt8)).length f.s = .inr (at_, f) := by rw [List.length_replicate]; exact hl
  obtain ⟨h1, h2⟩ := dec_zero hm
  refine ⟨?_, ?_⟩
  · simp only [getV, hl2, e, h1]
  · simp only [getE, hl2, e, h2]
end Go.Proofs.YtehcpjodkadfnaaGreat
/- Fields, in plain words: what was set is got; the others are as they were. Rows of values in memory. -/
set_option linter.unusedSimpArgs false
set_option linter.unusedVariables false
set_option maxRecDepth 100000
namespace Go.Proofs.YtehcpjodkadfnaaGreat
open Go.RowKit

theorem over_get {b x : List UInt8} {i : Nat} (h : i + x.length ≤ b.length) (p : Nat) : (overB b i x)[p]? = if i ≤ p ∧ p < i + x.length then x[p - i]? else b[p]? := by
  unfold overB
  have ht : (b.take i).length = i := by rw [List.length_take]; omega
  rcases (by omega : p < i ∨ (i ≤ p ∧ p < i + x.length) ∨ i + x.length ≤ p) with hp | hp | hp
  · rw [if_neg (by omega), List.append_assoc, List.getElem?_append_left (by omega), List.getElem?_take, if_pos hp]
  · rw [if_pos hp, List.append_assoc, List.getElem?_append_right (by omega), ht, List.getElem?_append_left (by omega)]
  · rw [if_neg (by omega), List.getElem?_append_right (by rw [List.length_append, ht]; omega), List.length_append, ht, List.getElem?_drop]
    congr 1; omega
theorem over_at {b x : List UInt8} {i : Nat} (h : i + x.length ≤ b.length) : ((overB b i x).drop i).take x.length = x := by
  apply List.ext_getElem?
  intro p
  rw [List.getElem?_take, List.getElem?_drop, over_get h]
  by_cases hp : p < x.length
  · rw [if_pos hp, if_pos (by omega)]; congr 1; omega
  · rw [if_neg hp, List.getElem?_eq_none (by omega)]
theorem over_far {b x : List UInt8} {i j n : Nat} (h : i + x.length ≤ b.length) (hd : j + n ≤ i ∨ i + x.length ≤ j) : ((overB b i x).drop j).take n = (b.drop j).take n := by
  apply List.ext_getElem?
  intro p
  rw [List.getElem?_take, List.getElem?_take, List.getElem?_drop, List.getElem?_drop, over_get h]
  by_cases hp : p < n
  · rw [if_pos hp, if_pos hp, if_neg (by omega)]
  · rw [if_neg hp, if_neg hp]
theorem endF_mono {fs : List Fd} (hm : MayF fs) {k l : Nat} (h : k ≤ l) : endF 0 (fs.take k) ≤ endF 0 (fs.take l) := by
  have e : fs.take l = (fs.take l).take k ++ (fs.take l).drop k := (List.take_append_drop _ _).symm
  rw [List.take_take, Nat.min_eq_left h] at e
  rw [e, endF_append]
  exact endF_ge fun g hg => hm g (List.mem_of_mem_take (List.mem_of_mem_drop hg))
theorem lay_apart {fs : List Fd} (hr : rightF fs = true) {i j : Nat} {f g : Fd} {a b : Nat} (hf : fs[i]? = some f) (hg : fs[j]? = some g) (ha : (layL fs)[i]? = some a) (hb : (layL fs)[j]? = some b) (hij : i < j) : a + f.n ≤ b := by
  obtain ⟨hm, _⟩ := rightF_may hr
  rw [layL, if_pos hr, List.getElem?_map, seqF_get 0 hf] at ha
  rw [layL, if_pos hr, List.getElem?_map, seqF_get 0 hg] at hb
  simp at ha hb
  have h1 := (seqF_take hf).2
  have h2 := endF_mono hm (show i + 1 ≤ j by omega)
  have h3 := atF_le (nx := endF 0 (fs.take j)) (hm g (List.mem_of_getElem? hg))
  omega
theorem set_get {fs : List Fd} (hr : rightF fs = true) {b : List UInt8} (hb : b.length = sizeF fs) {i : Nat} {f : Fd} (hf : fs[i]? = some f) (v : Vl) (h0 : 0 ≤ v.b) (h1 : v.b < 18446744073709551616) (he : setE b fs f.s v = 0) :
    (setB b fs f.s v).length = sizeF fs ∧ getV (setB b fs f.s v) fs f.s = v ∧ getE (setB b fs f.s v) fs f.s = 0 ∧
    ∀ (j : Nat) (g : Fd), j ≠ i → fs[j]? = some g → getV (setB b fs f.s v) fs g.s = getV b fs g.s ∧ getE (setB b fs f.s v) fs g.s = getE b fs g.s := by
  obtain ⟨at_, ha, hl⟩ := loc_name hr hf hb
  obtain ⟨hm, hin, _, hn⟩ := loc_in hl
  have hrr : rightB v.k v.b v.t f.k f.l = true := by
    cases h : rightB v.k v.b v.t f.k f.l
    · simp [setE, hl, h] at he
    · rfl
  have hel := encL_length hrr
  have hs : setB b fs f.s v = overB b at_ (encL v.b v.t f.k f.l) := by simp [setB, hl, hrr]
  have hfit : at_ + (encL v.b v.t f.k f.l).length ≤ b.length := by rw [hel]; exact hin
  have hlen : (setB b fs f.s v).length = sizeF fs := by rw [hs, overB_length hfit, hb]
  have hl2 : locF fs (setB b fs f.s v).length f.s = .inr (at_, f) := by rw [hlen, ← hb]; exact hl
  have hcut : ((setB b fs f.s v).drop at_).take f.n = encL v.b v.t f.k f.l := by rw [hs, ← hel]; exact over_at hfit
  have hk : v.k = f.k := (right_may hrr).2.1
  obtain ⟨_, d1, d2, d3⟩ := dec_enc h0 h1 hrr
  refine ⟨hlen, ?_, ?_, fun j g hj hg => ?_⟩
  · simp only [getV, hl2, hcut, decF]
    rw [if_pos d3, d1, d2, ← hk]
  · simp only [getE, hl2, hcut, decE]
    rw [if_pos d3]
  · obtain ⟨at2, ha2, hlg⟩ := loc_name hr hg hb
    have hlg2 : locF fs (setB b fs f.s v).length g.s = .inr (at2, g) := by rw [hlen, ← hb]; exact hlg
    have hfar : ((setB b fs f.s v).drop at2).take g.n = (b.drop at2).take g.n := by
      rw [hs]
      refine over_far hfit ?_
      rw [hel]
      rcases (by omega : j < i ∨ i < j) with h | h
      · exact .inl (lay_apart hr hg hf ha2 ha h)
      · exact .inr (lay_apart hr hf hg ha ha2 h)
    exact ⟨by simp only [getV, hlg, hlg2, hfar], by simp only [getE, hlg, hlg2, hfar]⟩
/-- what a row of values says of an object -/
def InvS (fs : List Fd) (b : List UInt8) (was : List Vl) : Prop := b.length = sizeF fs ∧ was.length = fs.length ∧ ∀ (j : Nat) (f : Fd) (v : Vl), fs[j]? = some f → was[j]? = some v → getV b fs f.s = v ∧ getE b fs f.s = 0
theorem invS_set {fs : List Fd} (hr : rightF fs = true) {b : List UInt8} {was : List Vl} (h : InvS fs b was) {i : Nat} {f : Fd} (hf : fs[i]? = some f) (v : Vl) (h0 : 0 ≤ v.b) (h1 : v.b < 18446744073709551616) (he : setE b fs f.s v = 0) : InvS fs (setB b fs f.s v) (was.set i v) := by
  obtain ⟨hb, hw, hall⟩ := h
  obtain ⟨s1, s2, s3, s4⟩ := set_get hr hb hf v h0 h1 he
  refine ⟨s1, by rw [List.length_set]; exact hw, fun j g u hg hu => ?_⟩
  by_cases hij : j = i
  · subst hij
    rw [hf] at hg; cases hg
    rw [List.getElem?_set_self (by have := (List.getElem?_eq_some_iff.1 hf).1; omega)] at hu
    cases hu
    exact ⟨s2, s3⟩
  · rw [List.getElem?_set_ne (by omega)] at hu
    obtain ⟨g1, g2⟩ := s4 j g hij hg
    obtain ⟨a1, a2⟩ := hall j g u hg hu
    exact ⟨g1.trans a1, g2.trans a2⟩
def Fd.zv (f : Fd) : Vl := ⟨f.k, 0, zeroL f.k f.l⟩
theorem invS_new {fs : List Fd} (hr : rightF fs = true) {z : Nat} (hz : sizeF fs = z) : InvS fs (List.replicate z 0) (fs.map Fd.zv) := by
  refine ⟨by rw [List.length_replicate, hz], by simp, fun j f v hf hv => ?_⟩
  rw [List.getElem?_map, hf] at hv
  cases hv
  exact get_new hr hf hz
/-- values, as memory holds them -/
def cellsVl (vs : List Vl) : List Value := vs.flatMap fun v => [.int .i64 v.k, .int .u64 v.b, .string v.t]
theorem cellsVl_length (vs : List Vl) : (cellsVl vs).length = 3 * vs.length := by
  induction vs with
  | nil => rfl
  | cons v r ih => simp only [cellsVl, List.flatMap_cons, List.length_append, List.length_cons, List.length_nil] at *; omega
theorem cellsVl_get {vs : List Vl} {i : Nat} {v : Vl} (h : vs[i]? = some v) : (cellsVl vs)[i * 3]? = some (.int .i64 v.k) ∧ (cellsVl vs)[i * 3 + 1]? = some (.int .u64 v.b) ∧ (cellsVl vs)[i * 3 + 2]? = some (.string v.t) := by
  induction vs generalizing i with
  | nil => simp at h
  | cons g r ih =>
    cases i with
    | zero => simp at h; subst h; exact ⟨rfl, rfl, rfl⟩
    | succ i =>
      have := ih (i := i) (by simpa using h)
      rw [cellsVl, List.flatMap_cons]
      refine ⟨?_, ?_, ?_⟩
      · rw [show (i + 1) * 3 = i * 3 + 3 by omega, List.getElem?_append_right (by simp)]; simpa [cellsVl] using this.1
      · rw [show (i + 1) * 3 + 1 = i * 3 + 1 + 3 by omega, List.getElem?_append_right (by simp)]; simpa [cellsVl] using this.2.1
      · rw [show (i + 1) * 3 + 2 = i * 3 + 2 + 3 by omega, List.getElem?_append_right (by simp)]; simpa [cellsVl] using this.2.2
theorem cellsVl_set {vs : List Vl} {i : Nat} (h : i < vs.length) (v : Vl) : (((cellsVl vs).set (i * 3) (.int .i64 v.k)).set (i * 3 + 1) (.int .u64 v.b)).set (i * 3 + 2) (.string v.t) = cellsVl (vs.set i v) := by
  induction vs generalizing i with
  | nil => simp at h
  | cons g r ih =>
    cases i with
    | zero => rfl
    | succ i =>
      have := ih (i := i) (by simpa using h)
      simp only [cellsVl, List.flatMap_cons, List.set_cons_succ] at *
      rw [← this]
      rw [show (i + 1) * 3 = (i * 3) + 1 + 1 + 1 by omega, show (i * 3) + 1 + 1 + 1 + 1 = (i * 3 + 1) + 1 + 1 + 1 by omega, show (i * 3) + 1 + 1 + 1 + 2 = (i * 3 + 2) + 1 + 1 + 1 by omega]
      simp
theorem OBox.set {w : World} {b : Nat} {cs : List Value} {T : TypeId} (h : OBox w b cs T) (j : Nat) (v : Value) : OBox (w.setCell ⟨b, j, none⟩ v) b (cs.set j v) T := by
  obtain ⟨hlt, hk⟩ := Array.getElem?_eq_some_iff.1 h
  show (w.heap.modify b _)[b]? = _
  rw [Array.getElem?_eq_getElem (by rw [Array.size_modify]; exact hlt), Array.getElem_modify_self, hk]
  simp
theorem OBox.other {w : World} {b : Nat} {cs : List Value} {T : TypeId} (h : OBox w b cs T) {p : Addr} (hp : p.block ≠ b) (v : Value) : OBox (w.setCell p v) b cs T := (Below.heap_setCell w p v b (fun e => hp e.symm)).trans h
theorem OBox.vals {w : World} {b : Nat} {vs : List Vl} {T : TypeId} (h : OBox w b (cellsVl vs) T) {i : Nat} {v : Vl} (hv : vs[i]? = some v) :
    w.cell? ⟨b, i * 3, none⟩ = some (.int .i64 v.k) ∧ w.cell? ⟨b, i * 3 + 1, none⟩ = some (.int .u64 v.b) ∧ w.cell? ⟨b, i * 3 + 2, none⟩ = some (.string v.t) := by
  obtain ⟨g0, g1, g2⟩ := cellsVl_get hv
  exact ⟨h.cell g0, h.cell g1, h.cell g2⟩
theorem cellsVl_kind {vs : List Vl} {u : Value} (h : u ∈ cellsVl vs) (x : Int) : u ≠ .int .u8 x := by
  simp only [cellsVl, List.mem_flatMap] at h
  obtain ⟨v, _, hu⟩ := h
  simp at hu
  rcases hu with rfl | rfl | rfl <;> simp
/-- bytes that are read lie in no block of values -/
theorem rd_apart {w : World} {B : Option Addr} {l : List UInt8} (h : Rd w B (bytesV l)) {b : Nat} {vs : List Vl} {T : TypeId} (ho : OBox w b (cellsVl vs) T) (hne : l ≠ []) : ∀ ad, B = some ad → ad.block ≠ b := by
  rintro ad rfl e
  obtain ⟨ad', e', hc⟩ := h (by simp [bytesV]; exact hne)
  cases e'
  cases l with
  | nil => exact hne rfl
  | cons x r =>
    have h0 := hc 0 (.int .u8 (x.toNat : Int)) rfl
    have hb0 : (ad.add 0).block = b := by rw [← e]; unfold Addr.add; split <;> rfl
    unfold World.cell? at h0
    rw [hb0, show w.heap[b]? = _ from ho] at h0
    dsimp only at h0
    split at h0
    · cases h0
    · rw [List.getElem?_toArray] at h0
      exact cellsVl_kind (List.mem_of_getElem? h0) _ rfl
theorem rd_set {w : World} {B : Option Addr} {cs : List Value} (h : Rd w B cs) {p : Addr} (hp : ∀ ad, B = some ad → ad.block ≠ p.block) (v : Value) : Rd (w.setCell p v) B cs := fun hn => by
  obtain ⟨ad, rfl, hc⟩ := h hn
  refine ⟨ad, rfl, fun j u hj => ?_⟩
  have hb : (ad.add j).block = ad.block := by unfold Addr.add; split <;> rfl
  rw [World.cell?_of_block (w := w) (Below.heap_setCell w p v _ (by rw [hb]; exact hp ad rfl))]
  exact hc j u hj
/-- a row of values of the call's own, at an address -/
def VRow (w : World) (bd : Addr) (vs : List Vl) : Prop := bd = ⟨bd.block, 0, none⟩ ∧ OBox w bd.block (cellsVl vs) 33
theorem VRow.below {w w1 : World} {bd : Addr} {vs : List Vl} (h : VRow w bd vs) (hb : Below w.heap.size w w1) : VRow w1 bd vs := ⟨h.1, h.2.below hb⟩
theorem add_at {bd : Addr} (h : bd = ⟨bd.block, 0, none⟩) (n : Nat) : bd.add n = ⟨bd.block, n, none⟩ := by
  obtain ⟨b, o, s⟩ := bd
  have h : (⟨b, o, s⟩ : Addr) = ⟨b, 0, none⟩ := h
  cases h
  unfold Addr.add; split <;> simp_all
theorem VRow.at {w : World} {bd : Addr} {vs : List Vl} (h : VRow w bd vs) {i : Nat} {v : Vl} (hv : vs[i]? = some v) :
    (w.cell? (bd.add (i * 3)) = some (.int .i64 v.k) ∧ w.cell? ⟨(bd.add (i * 3)).block, (bd.add (i * 3)).off + (0 + 1), none⟩ = some (.int .u64 v.b) ∧ w.cell? ⟨(bd.add (i * 3)).block, (bd.add (i * 3)).off + (1 + 1), none⟩ = some (.string v.t)) ∧
    w.frozen? (bd.add (i * 3)) = false ∧ w.frozen? ⟨(bd.add (i * 3)).block, (bd.add (i * 3)).off + (0 + 1), none⟩ = false ∧ w.frozen? ⟨(bd.add (i * 3)).block, (bd.add (i * 3)).off + (1 + 1), none⟩ = false := by
  obtain ⟨h0, h1, h2⟩ := h.2.vals hv
  rw [add_at h.1]
  exact ⟨⟨h0, h1, h2⟩, h.2.frz _, h.2.frz _, h.2.frz _⟩
/-- the same, as a store asks it -/
theorem VRow.at2 {w : World} {bd : Addr} {vs : List Vl} (h : VRow w bd vs) {i : Nat} {v : Vl} (hv : vs[i]? = some v) :
    (w.cell? ⟨(bd.add (i * 3)).block, (bd.add (i * 3)).off + 1, none⟩ = some (.int .u64 v.b) ∧ w.cell? ⟨(bd.add (i * 3)).block, (bd.add (i * 3)).off + 2, none⟩ = some (.string v.t)) ∧
    w.frozen? ⟨(bd.add (i * 3)).block, (bd.add (i * 3)).off + 1, none⟩ = false ∧ w.frozen? ⟨(bd.add (i * 3)).block, (bd.add (i * 3)).off + 2, none⟩ = false := by
  obtain ⟨⟨_, h1, h2⟩, _, z1, z2⟩ := h.at hv
  exact ⟨⟨h1, h2⟩, z1, z2⟩
/-- the second cell, behind a store -/
theorem VRow.at1 {w : World} {bd : Addr} {vs : List Vl} (h : VRow w bd vs) {i : Nat} {v : Vl} (hv : vs[i]? = some v) (x : Value) :
    (w.setCell (bd.add (i * 3)) x).cell? ⟨(bd.add (i * 3)).block, (bd.add (i * 3)).off + 1, none⟩ = some (.int .u64 v.b) ∧
    (w.setCell (bd.add (i * 3)) x).frozen? ⟨(bd.add (i * 3)).block, (bd.add (i * 3)).off + 1, none⟩ = false := by
  obtain ⟨_, g1, _⟩ := cellsVl_get hv
  rw [add_at h.1]
  have o := h.2.set (i * 3) x
  have g : ((cellsVl vs).set (i * 3) x)[i * 3 + 1]? = some (.int .u64 v.b) := by
    rw [List.getElem?_set_ne (by omega)]; exact g1
  exact ⟨o.cell (j := i * 3 + 1) g, o.frz (i * 3 + 1)⟩
/-- the third cell, behind two stores -/
theorem VRow.at3 {w : World} {bd : Addr} {vs : List Vl} (h : VRow w bd vs) {i : Nat} {v : Vl} (hv : vs[i]? = some v) (x y : Value) :
    ((w.setCell (bd.add (i * 3)) x).setCell ⟨(bd.add (i * 3)).block, (bd.add (i * 3)).off + 1, none⟩ y).cell? ⟨(bd.add (i * 3)).block, (bd.add (i * 3)).off + 2, none⟩ = some (.string v.t) ∧
    ((w.setCell (bd.add (i * 3)) x).setCell ⟨(bd.add (i * 3)).block, (bd.add (i * 3)).off + 1, none⟩ y).frozen? ⟨(bd.add (i * 3)).block, (bd.add (i * 3)).off + 2, none⟩ = false := by
  obtain ⟨_, _, g2⟩ := cellsVl_get hv
  rw [add_at h.1]
  have o := (h.2.set (i * 3) x).set (i * 3 + 1) y
  have g : (((cellsVl vs).set (i * 3) x).set (i * 3 + 1) y)[i * 3 + 2]? = some (.string v.t) := by
    rw [List.getElem?_set_ne (by omega), List.getElem?_set_ne (by omega)]; exact g2
  exact ⟨o.cell (j := i * 3 + 2) g, o.frz (i * 3 + 2)⟩
/-- three cells are written -/
def put3 (w : World) (p : Addr) (v : Vl) : World := ((w.setCell p (.int .i64 v.k)).setCell ⟨p.block, p.off + (0 + 1), none⟩ (.int .u64 v.b)).setCell ⟨p.block, p.off + (1 + 1), none⟩ (.string v.t)
theorem VRow.set {w : World} {bd : Addr} {vs : List Vl} (h : VRow w bd vs) {i : Nat} (hi : i < vs.length) (v : Vl) : VRow (put3 w (bd.add (i * 3)) v) bd (vs.set i v) := by
  refine ⟨h.1, ?_⟩
  rw [put3, add_at h.1, ← cellsVl_set hi]
  exact ((h.2.set _ _).set _ _).set _ _
theorem put3_below {n : Nat} {a w : World} {p : Addr} {v : Vl} (h : Below n a w) (hp : n ≤ p.block) : Below n a (put3 w p v) := by
  unfold put3
  refine Below.setCell (Below.setCell (Below.setCell h ?_ _) ?_ _) ?_ _ <;> exact hp
theorem put3_rd {w : World} {bd : Addr} {vs : List Vl} (h : VRow w bd vs) {B : Option Addr} {l : List UInt8} (hr : Rd w B (bytesV l)) (i : Nat) (v : Vl) : Rd (put3 w (bd.add (i * 3)) v) B (bytesV l) := by
  by_cases hne : l = []
  · subst hne; exact fun hn => absurd rfl hn
  · have hp := rd_apart hr h.2 hne
    rw [put3, add_at h.1]
    refine rd_set (rd_set (rd_set hr ?_ _) ?_ _) ?_ _ <;> exact hp
theorem Rd.vl {w : World} {A : Option Addr} {vs : List Vl} (h : Rd w A (cellsVl vs)) {k : Nat} {v : Vl} (hv : vs[k]? = some v) : ∃ ad, A = some ad ∧ w.cell? (ad.add (k * 3)) = some (.int .i64 v.k) ∧ w.cell? ⟨(ad.add (k * 3)).block, (ad.add (k * 3)).off + (0 + 1), none⟩ = some (.int .u64 v.b) ∧ w.cell? ⟨(ad.add (k * 3)).block, (ad.add (k * 3)).off + (1 + 1), none⟩ = some (.string v.t) := by
  obtain ⟨g0, g1, g2⟩ := cellsVl_get hv
  obtain ⟨ad, rfl, h0⟩ := h.at g0
  obtain ⟨_, e1, h1⟩ := h.at g1
  obtain ⟨_, e2, h2⟩ := h.at g2
  cases e1; cases e2
  rw [add_part _ _ 0] at h1
  rw [add_part _ _ 1] at h2
  exact ⟨ad, rfl, h0, h1, h2⟩
theorem infoVal : (Tryz.prog.info? 33).map (fun i => (i.zero, i.size, i.bytes)) = some (some (.agg #[.int .i64 0, .int .u64 0, .string ⟨#[]⟩]), 3, 32) := by kernel_rfl
theorem made_vals (m : Nat) : madeCells #[.int .i64 0, .int .u64 0, .string ⟨#[]⟩] (m * 3) = (cellsVl (List.replicate m Vl.z)).toArray := by
  have h : (madeCells #[.int .i64 0, .int .u64 0, .string ⟨#[]⟩] (m * 3)).toList = cellsVl (List.replicate m Vl.z) := by
    apply List.ext_getElem?
    intro j
    by_cases hj : j < m * 3
    · obtain ⟨q, hq⟩ : ∃ q, j / 3 = q := ⟨_, rfl⟩
      obtain ⟨g0, g1, g2⟩ := cellsVl_get (vs := List.replicate m Vl.z) (i := q) (v := Vl.z) (by rw [List.getElem?_replicate, if_pos (by omega)])
      have e0 : (madeCells #[.int .i64 0, .int .u64 0, .string ⟨#[]⟩] (m * 3)).toList[j]? = some ((#[.int .i64 0, .int .u64 0, .string ⟨#[]⟩] : Array Value)[j % 3]!) := by
        simp [madeCells, hj]
      rw [e0]
      rcases (by omega : (j = q * 3 ∧ j % 3 = 0) ∨ (j = q * 3 + 1 ∧ j % 3 = 1) ∨ (j = q * 3 + 2 ∧ j % 3 = 2)) with ⟨e, e2⟩ | ⟨e, e2⟩ | ⟨e, e2⟩
      · rw [e2, e, g0]; rfl
      · rw [e2, e, g1]; rfl
      · rw [e2, e, g2]; rfl
    · rw [List.getElem?_eq_none (by simp [madeCells]; omega), List.getElem?_eq_none (by rw [cellsVl_length, List.length_replicate]; omega)]
  rw [← h]
/-- 'make([]api.Value, m)' -/
theorem make_vals (m : Nat) (h : m ≤ 1000) (w : World) : (Instr.makeSlice 24 (.int .i64 (m : Int)) (.int .i64 (m : Int))).run Tryz.prog w = .ok (.slice (some ⟨w.heap.size, 0, none⟩) m m) (w.alloc (.cells (cellsVl (List.replicate m Vl.z)).toArray 33)) := by
  obtain ⟨i0, hi, hz0, hz1, hz2⟩ := info_parts infoVal
  have := run_make (P := Tryz.prog) w 24 33 i0 _ Tryz.underlying24 hi hz0 .i64 .i64 m m (by omega) (Int.le_refl _) (by rw [hz2]; omega) (by omega)
  rw [this, hz1]
  have e : madeCells (Value.agg #[.int .i64 0, .int .u64 0, .string ⟨#[]⟩]).cells ((m : Int).toNat * 3) = (cellsVl (List.replicate m Vl.z)).toArray := made_vals m
  rw [e]
  simp
/-- the values of the first fields, zeroes behind -/
def zvL (fs : List Fd) (k : Nat) : List Vl := (fs.take k).map Fd.zv ++ List.replicate (fs.length - k) Vl.z
theorem zvL_length (fs : List Fd) {k : Nat} (hk : k ≤ fs.length) : (zvL fs k).length = fs.length := by simp [zvL]; omega
theorem zvL_get (fs : List Fd) {k : Nat} (hk : k < fs.length) : (zvL fs k)[k]? = some Vl.z := by
  have hl : ((fs.take k).map Fd.zv).length = k := by simp; omega
  rw [zvL, List.getElem?_append_right (by omega), hl, List.getElem?_replicate, if_pos (by omega)]
theorem zvL_succ {fs : List Fd} {k : Nat} {f : Fd} (hf : fs[k]? = some f) : (zvL fs k).set k f.zv = zvL fs (k + 1) := by
  have hk := (List.getElem?_eq_some_iff.1 hf).1
  have hl : ((fs.take k).map Fd.zv).length = k := by simp; omega
  rw [zvL, zvL, List.take_add_one, hf, show fs.length - k = (fs.length - (k + 1)) + 1 by omega, List.replicate_succ, List.set_append_right _ _ (by omega), hl]
  simp
theorem zvL_all (fs : List Fd) : zvL fs fs.length = fs.map Fd.zv := by simp [zvL]
theorem zvL_none (fs : List Fd) : zvL fs 0 = List.replicate fs.length Vl.z := by simp [zvL]
end Go.Proofs.YtehcpjodkadfnaaGreat
