/- Merged out of: Gu Gv Gw Ha Kn Kp Kq Kr Ks Kt Ma Mb Mc. -/
import Derived.Test.YtehcpjodkadfnaaGreatUl
import Derived.Test.YtehcpjodkadfnaaGreatUh
import Derived.Deep.DeepCutAuto
import Derived.Laws.CopyOwn
/- Layer 6 of the heap, fields, twenty-first part: the reference reads fields. -/
set_option linter.unusedSimpArgs false
set_option linter.unusedVariables false
set_option maxRecDepth 100000
namespace Go.Proofs.YtehcpjodkadfnaaGreat
open Go.RowKit

theorem decL_whole {c : UInt8} {l0 l : List Fd} {r : List UInt8} (hw : ∀ f ∈ l0, wfF f) (h : decL (c :: (l0.flatMap rowF ++ r)) = some l) : l0 = l.take l0.length ∧ r = (l.drop l0.length).flatMap rowF ∧ rightF l = true := by
  obtain ⟨hr, he⟩ := (decL_iff _ _).1 h
  have h16 := (rightF_may hr).2
  rw [encFL] at he
  injection he with he1 he2
  have hc : l.length = c.toNat := by rw [← he1, u8_nat (by omega)]
  rcases Nat.lt_or_ge l.length l0.length with hlt | hge
  · exfalso
    have e1 := rdF_flat hw r (k := l.length) (by omega)
    have e2 := rdF_flat (rightF_wf hr) [] (Nat.le_refl l.length)
    rw [List.append_nil, he2, e1] at e2
    simp at e2
    have := e2.2.1
    cases hd : l0.drop l.length with
    | nil => have := congrArg List.length hd; simp at this; omega
    | cons f t => have := this f (by rw [hd]; exact List.mem_cons_self ..); simp [rowF] at this
  · obtain ⟨_, h2, h3, h4⟩ := decL_part hw (by omega) h
    exact ⟨h2, h3, h4⟩
theorem decL_stop2 {c : UInt8} {l0 : List Fd} {r : List UInt8} (hw : ∀ f ∈ l0, wfF f) (hne : r ≠ []) (hs : stepF r = none) : decL (c :: (l0.flatMap rowF ++ r)) = none := by
  cases hd : decL (c :: (l0.flatMap rowF ++ r)) with
  | none => rfl
  | some l =>
    obtain ⟨h2, h3, h4⟩ := decL_whole hw hd
    cases hdl : l.drop l0.length with
    | nil => rw [hdl] at h3; exact absurd h3 hne
    | cons f t =>
      rw [h3, hdl, List.flatMap_cons, step_row (rightF_wf h4 f (List.mem_of_mem_drop (by rw [hdl]; exact List.mem_cons_self ..)))] at hs
      cases hs
theorem decL_end2 {c : UInt8} {l0 : List Fd} (hw : ∀ f ∈ l0, wfF f) : decL (c :: l0.flatMap rowF) = if rightF l0 = true ∧ encFL l0 = c :: l0.flatMap rowF then some l0 else none := by
  split
  · rename_i h; exact (decL_iff _ _).2 h
  · rename_i hn
    cases hd : decL (c :: l0.flatMap rowF) with
    | none => rfl
    | some l =>
      have hd' : decL (c :: (l0.flatMap rowF ++ [])) = some l := by rw [List.append_nil]; exact hd
      obtain ⟨h2, h3, h4⟩ := decL_whole hw hd'
      have : l.drop l0.length = [] := by
        cases hdl : l.drop l0.length with
        | nil => rfl
        | cons f t => rw [hdl] at h3; simp [rowF] at h3
      have hl : l0 = l := by
        have e := List.take_append_drop l0.length l
        rw [this, ← h2, List.append_nil] at e
        exact e
      subst hl
      exact absurd ((decL_iff _ _).1 hd) hn
theorem bl_get (s : ByteArray) (i : Nat) (x : UInt8) (h : (bl s)[i]? = some x) : ∃ hi : i < s.size, s[i]'hi = x := by
  obtain ⟨h1, h2⟩ := List.getElem?_eq_some_iff.1 h
  refine ⟨by rw [← bl_length]; exact h1, ?_⟩
  rw [← h2]; rfl
end Go.Proofs.YtehcpjodkadfnaaGreat
/- Layer 6 of the heap, fields, twenty-second part: the contracts once more, their numbers under letters; the law's small functions. -/
set_option linter.unusedSimpArgs false
set_option linter.unusedVariables false
set_option maxRecDepth 100000
namespace Go.Proofs.YtehcpjodkadfnaaGreat
open Go.RowKit

theorem Right_m (A : Option Addr) (c m : Nat) (fs : List Fd) (hm : fs.length = m) (r : Bool) (h : rightF fs = r) (w : World) (hA : Rd w A (cellsF fs)) (hl : m ≤ 9223372036854775807) :
    Calls Tryz.prog 21 #[.slice A m c] w fun e w' => e = .returned (.bool r) ∧ Below w.heap.size w w' := by subst hm; exact FRight_is A c fs r h w hA hl
theorem rRight_m (A : Option Addr) (c m : Nat) (fs : List Fd) (hm : fs.length = m) (r : Bool) (h : rightF fs = r) (w : World) (hA : Rd w A (cellsF fs)) (hl : m ≤ 9223372036854775807) (hs : ∀ f ∈ fs, f.s.size ≤ 9223372036854775807) :
    Calls Tryz.prog 5 #[.slice A m c] w fun e w' => e = .returned (.bool r) ∧ Below w.heap.size w w' := by subst hm; exact rFRight_is A c fs r h w hA hl hs
theorem Layout_m (A : Option Addr) (c m : Nat) (fs : List Fd) (hm : fs.length = m) (z : Nat) (hz : sizeF fs = z) (ls : List Nat) (hls : layL fs = ls) (n : Nat) (hn : ls.length = n) (w : World) (hA : Rd w A (cellsF fs)) (hl : m ≤ 9223372036854775807) :
    Calls Tryz.prog 51 #[.slice A m c] w fun e w' => ∃ B c', e = .returned (.tuple #[.slice B n c', .int .i64 (z : Nat)]) ∧ Rd w' B (intsV ls) ∧ Below w.heap.size w w' := by
  subst hm hls hn
  refine (Layout_is A c fs z hz w hA hl).mono ?_
  rintro e w' ⟨B, m, c', rfl, rfl, hr, hb⟩
  exact ⟨B, c', rfl, hr, hb⟩
theorem rLayout_m (A : Option Addr) (c m : Nat) (fs : List Fd) (hm : fs.length = m) (z : Nat) (hz : sizeF fs = z) (ls : List Nat) (hls : layL fs = ls) (n : Nat) (hn : ls.length = n) (w : World) (hA : Rd w A (cellsF fs)) (hl : m ≤ 9223372036854775807) (hs : ∀ f ∈ fs, f.s.size ≤ 9223372036854775807) :
    Calls Tryz.prog 29 #[.slice A m c] w fun e w' => ∃ B c', e = .returned (.tuple #[.slice B n c', .int .i64 (z : Nat)]) ∧ Rd w' B (intsV ls) ∧ Below w.heap.size w w' := by
  subst hm hls hn
  refine (rLayout_is A c fs z hz w hA hl hs).mono ?_
  rintro e w' ⟨B, m, c', rfl, rfl, hr, hb⟩
  exact ⟨B, c', rfl, hr, hb⟩
theorem New_m (A : Option Addr) (c m : Nat) (fs : List Fd) (hm : fs.length = m) (z : Nat) (hz : sizeF fs = z) (w : World) (hA : Rd w A (cellsF fs)) (hl : m ≤ 9223372036854775807) :
    Calls Tryz.prog 26 #[.slice A m c] w fun e w' => ∃ B c', e = .returned (.slice B z c') ∧ z ≤ c' ∧ Rd w' B (bytesV (List.replicate z 0)) ∧ Below w.heap.size w w' := by
  subst hm hz
  refine (New_calls A c fs w hA hl).mono ?_
  rintro e w' ⟨v, rfl, ⟨B, c', rfl, hc, hr⟩, hb⟩
  rw [List.length_replicate] at *
  exact ⟨B, c', rfl, hc, hr, hb⟩
theorem Find_m (A : Option Addr) (c m : Nat) (fs : List Fd) (hm : fs.length = m) (nm : ByteArray) (r : Int) (h : findZ fs nm = r) (w : World) (hA : Rd w A (cellsF fs)) (hl : m ≤ 9223372036854775807) :
    Calls Tryz.prog 45 #[.slice A m c, .string nm] w fun e w' => e = .returned (.int .i64 r) ∧ Below w.heap.size w w' := by subst hm; exact Find_is A c fs nm r h w hA hl
theorem rFind_m (A : Option Addr) (c m : Nat) (fs : List Fd) (hm : fs.length = m) (nm : ByteArray) (r : Int) (h : findZ fs nm = r) (w : World) (hA : Rd w A (cellsF fs)) (hl : m ≤ 9223372036854775807) :
    Calls Tryz.prog 16 #[.slice A m c, .string nm] w fun e w' => e = .returned (.int .i64 r) ∧ w = w' := by subst hm; exact rFind_is A c fs nm r h w hA hl
theorem Get_m (Ab : Option Addr) (nb cb : Nat) (b : List UInt8) (hb0 : b.length = nb) (A : Option Addr) (c m : Nat) (fs : List Fd) (hm : fs.length = m) (nm : ByteArray) (v : Vl) (hv : getV b fs nm = v) (q : Int) (hq : getE b fs nm = q) (w : World) (hA : Rd w A (cellsF fs)) (hl : m ≤ 9223372036854775807) (hb : Rd w Ab (bytesV b)) (hcb : nb ≤ cb) :
    Calls Tryz.prog 13 #[.slice Ab nb cb, .slice A m c, .string nm] w fun e w' => e = .returned (.tuple #[.agg #[.int .i64 v.k, .int .u64 v.b, .string v.t], .int .i64 q]) ∧ Below w.heap.size w w' := by
  subst hb0 hm hv hq; exact Get_calls Ab cb b A c fs nm w hA hl hb hcb
theorem Set_m (Ab : Option Addr) (nb cb : Nat) (b : List UInt8) (hb0 : b.length = nb) (A : Option Addr) (c m : Nat) (fs : List Fd) (hm : fs.length = m) (nm : ByteArray) (k u : Int) (t : ByteArray) (h0 : 0 ≤ u) (h1 : u < 18446744073709551616) (x : List UInt8) (hx : setB b fs nm ⟨k, u, t⟩ = x) (n : Nat) (hn : x.length = n) (q : Int) (hq : setE b fs nm ⟨k, u, t⟩ = q) (w : World) (hA : Rd w A (cellsF fs)) (hl : m ≤ 9223372036854775807) (hb : Rd w Ab (bytesV b)) :
    Calls Tryz.prog 28 #[.slice Ab nb cb, .slice A m c, .string nm, .agg #[.int .i64 k, .int .u64 u, .string t]] w fun e w' => ∃ B c', e = .returned (.tuple #[.slice B n c', .int .i64 q]) ∧ n ≤ c' ∧ Rd w' B (bytesV x) ∧ Below w.heap.size w w' := by
  subst hb0 hm hx hq hn
  refine (Set_calls Ab cb b A c fs nm ⟨k, u, t⟩ h0 h1 w hA hl hb).mono ?_
  rintro e w' ⟨v, rfl, ⟨B, c', rfl, hc, hr⟩, hb⟩
  exact ⟨B, c', rfl, hc, hr, hb⟩
theorem rSet_m (s : ByteArray) (b : List UInt8) (hsb : bl s = b) (A : Option Addr) (c m : Nat) (fs : List Fd) (hm : fs.length = m) (nm : ByteArray) (k u : Int) (t : ByteArray) (h0 : 0 ≤ u) (h1 : u < 18446744073709551616) (x : ByteArray) (hx : strL (setB b fs nm ⟨k, u, t⟩) = x) (q : Int) (hq : setE b fs nm ⟨k, u, t⟩ = q) (w : World) (hA : Rd w A (cellsF fs)) (hl : m ≤ 9223372036854775807) (hs : ∀ f ∈ fs, f.s.size ≤ 9223372036854775807) :
    Calls Tryz.prog 30 #[.string s, .slice A m c, .string nm, .agg #[.int .i64 k, .int .u64 u, .string t]] w fun e w' => e = .returned (.tuple #[.string x, .int .i64 q]) ∧ Below w.heap.size w w' := by
  subst hm hx hq hsb; exact rSet_calls s A c fs nm ⟨k, u, t⟩ h0 h1 w hA hl hs
def FewP (fs : List Fd) (w : World) (e : Ending) (w' : World) : Prop := ∃ r : Bool, e = .returned (.bool r) ∧ (r = true → fs.length ≤ 40) ∧ Below w.heap.size w w'
end Go.Proofs.YtehcpjodkadfnaaGreat
/- Layer 6 of the heap, fields, twenty-third part: the law's example. -/
set_option linter.unusedSimpArgs false
set_option linter.unusedVariables false
set_option maxRecDepth 100000
namespace Go.Proofs.YtehcpjodkadfnaaGreat
open Go.RowKit

def L0 : List Fd := [⟨⟨#[97]⟩, 1, 0⟩, ⟨⟨#[98]⟩, 3, 0⟩, ⟨⟨#[99]⟩, 12, 3⟩, ⟨⟨#[100]⟩, 11, 0⟩]
def X0 : List UInt8 := [0, 0, 0, 0, 2, 1, 0, 0, 0, 0, 0, 0, 0, 0, 0, 0, 0, 0, 0, 0, 0, 0, 0, 0]
theorem al1 : sizeF L0 = 24 := by decide +kernel
theorem al2 : layL L0 = [0, 4, 8, 16] := by decide +kernel
theorem al3 : setB (List.replicate 24 0) L0 ⟨#[98]⟩ ⟨3, 258, ⟨#[]⟩⟩ = X0 := by decide +kernel
theorem al4 : setE (List.replicate 24 0) L0 ⟨#[98]⟩ ⟨3, 258, ⟨#[]⟩⟩ = 0 := by decide +kernel
theorem al5 : getE X0 L0 ⟨#[98]⟩ = 0 := by decide +kernel
theorem al6 : (getV X0 L0 ⟨#[98]⟩).b = 258 := by decide +kernel
theorem al7 : (wrL L0).length = 17 := by decide +kernel
theorem al8 : wrE L0 = 0 := by decide +kernel
theorem al9 : refsL L0 = [16] := by decide +kernel
theorem al10 : findZ L0 ⟨#[100]⟩ = 3 := by decide +kernel
end Go.Proofs.YtehcpjodkadfnaaGreat
/- Right fields, in plain words, for the laws. -/
set_option linter.unusedSimpArgs false
set_option linter.unusedVariables false
set_option maxRecDepth 100000
namespace Go.Proofs.YtehcpjodkadfnaaGreat
open Go.RowKit

theorem rightF_ok {fs : List Fd} (hr : rightF fs = true) {k : Nat} {f : Fd} (hf : fs[k]? = some f) : nameB f.s = true ∧ mayB f.k f.l = true ∧ findZ fs f.s = k := by
  simp only [rightF, Bool.and_eq_true, decide_eq_true_eq] at hr
  obtain ⟨h1, h2⟩ := List.getElem?_eq_some_iff.1 hf
  have := hr.1 k h1
  rw [h2] at this
  simp only [okF, Bool.and_eq_true, decide_eq_true_eq] at this
  exact ⟨this.1.1, this.1.2, this.2⟩
theorem findZ_snoc (a : List Fd) (f : Fd) (nm : ByteArray) : decide (0 ≤ findZ (a ++ [f]) nm) = (decide (0 ≤ findZ a nm) || decide (f.s = nm)) := by
  induction a with
  | nil =>
    by_cases h : f.s = nm <;> simp [findZ, h]
  | cons g r ih =>
    rw [List.cons_append, findZ, findZ]
    by_cases h : g.s = nm
    · simp [h]
    · simp only [if_neg h]
      have hb := findZ_ge (r ++ [f]) nm
      have hb2 := findZ_ge r nm
      have e1 : decide (0 ≤ (if findZ (r ++ [f]) nm < 0 then (-1 : Int) else findZ (r ++ [f]) nm + 1)) = decide (0 ≤ findZ (r ++ [f]) nm) := by
        split <;> (rw [Bool.eq_iff_iff]; simp; omega)
      have e2 : decide (0 ≤ (if findZ r nm < 0 then (-1 : Int) else findZ r nm + 1)) = decide (0 ≤ findZ r nm) := by
        split <;> (rw [Bool.eq_iff_iff]; simp; omega)
      rw [e1, e2, ih]
end Go.Proofs.YtehcpjodkadfnaaGreat
/- Layer 5's laws: the test that something is alive. -/
set_option linter.unusedSimpArgs false
set_option linter.unusedVariables false
set_option maxRecDepth 100000
namespace Go.Proofs.YtehcpjodkadfnaaGreat
open Go.RowKit

theorem Cast_is (vk bits : Int) (tx s s2 : ByteArray) (k l k2 l2 : Int) (h0 : 0 ≤ bits) (h1 : bits < 18446744073709551616) (v : Value) (q : Int) (hv : castV vk bits tx k l k2 l2 = v) (hq : castE vk bits tx k l k2 l2 = q) (w : World) :
    Calls Tryz.prog 27 #[.agg #[.int .i64 vk, .int .u64 bits, .string tx], .agg #[.string s, .int .i64 k, .int .i64 l], .agg #[.string s2, .int .i64 k2, .int .i64 l2]] w fun e w' => e = .returned (.tuple #[v, .int .i64 q]) ∧ Below w.heap.size w w' := by
  subst hv hq; exact Cast_calls vk bits tx s s2 k l k2 l2 h0 h1 w
theorem Whole_is (b : Int) (h0 : 0 ≤ b) (h1 : b < 18446744073709551616) (r : Int) (h : wholeZ b.toNat = r) (w : World) :
    Calls Tryz.prog 55 #[.int .u64 b] w fun e w' => e = .returned (.int .i64 r) ∧ Below w.heap.size w w' := h ▸ Whole_calls b h0 h1 w

theorem alive_v : castV 5 18446744073709551615 ⟨#[]⟩ 5 0 7 0 = .agg #[.int .i64 7, .int .u64 18446744073709551615, .string ⟨#[]⟩] := by
  rw [castV, if_pos ⟨by decide, by decide⟩]; rfl
theorem alive_e : castE 5 18446744073709551615 ⟨#[]⟩ 5 0 7 0 = 0 := by decide
theorem alive_r : rightB 7 18446744073709551615 ⟨#[]⟩ 7 0 = true := by decide
theorem alive_l : encL 18446744073709551615 ⟨#[]⟩ 7 0 = [255, 255, 255, 255] := by decide
theorem alive_1 : wholeZ (13837084675114480435 : Int).toNat = -2 := by decide
theorem alive_2 : wholeZ (9094988921128908188 : Int).toNat = 9223372036854775807 := by decide

end Go.Proofs.YtehcpjodkadfnaaGreat
/- Layer 5's reference, fourth part: the whole of a float64. -/
set_option linter.unusedSimpArgs false
set_option linter.unusedVariables false
set_option maxRecDepth 100000
namespace Go.Proofs.YtehcpjodkadfnaaGreat
open Go.RowKit

theorem whole_parts (b : Int) (h0 : 0 ≤ b) (e q : Int) (he : b / 4503599627370496 % 2048 - 1075 = e) (hq : b % 4503599627370496 = q) : wholeZ b.toNat = if e = 972 ∧ q ≠ 0 then 0 else if 11 ≤ e then (if 9223372036854775808 ≤ b then -9223372036854775808 else 9223372036854775807) else if 9223372036854775808 ≤ b then -(cutN (4503599627370496 + q.toNat) e : Int) else (cutN (4503599627370496 + q.toNat) e : Int) := by
  have h1 : (fld b.toNat : Int) = e + 1075 := by unfold fld; omega
  have h2 : frc b.toNat = q.toNat := by unfold frc; omega
  have h3 : (ngB b.toNat = true) ↔ 9223372036854775808 ≤ b := by simp [ngB]; omega
  unfold wholeZ
  rw [h2, show (fld b.toNat : Int) - 1075 = e by omega]
  have c1 : (fld b.toNat = 2047 ∧ q.toNat ≠ 0) ↔ (e = 972 ∧ q ≠ 0) := by omega
  have c2 : (1086 ≤ fld b.toNat) ↔ 11 ≤ e := by omega
  simp only [c1, c2, h3]
theorem cut_up (d : Nat) (k : Nat) : cutN d (k : Int) = d * 2 ^ k := by
  unfold cutN
  rw [show (-(k : Int)).toNat = 0 by omega, Int.toNat_natCast]; simp
theorem cut_down (d : Nat) (k : Nat) : cutN d (-(k : Int)) = d / 2 ^ k := by
  unfold cutN
  rw [show (-(k : Int)).toNat = 0 by omega, show (-(-(k : Int))).toNat = k by omega]; simp
theorem pow_small {d k : Nat} (hd : d < 9007199254740992) (hk : k ≤ 10) : d * 2 ^ k < 9223372036854775808 := by
  have : 2 ^ k ≤ 2 ^ 10 := Nat.pow_le_pow_right (by decide) hk
  calc d * 2 ^ k ≤ d * 2 ^ 10 := Nat.mul_le_mul_left _ this
    _ < _ := by omega

end Go.Proofs.YtehcpjodkadfnaaGreat
/- Layer 5's reference, fifth part: which casts may be. -/
set_option linter.unusedSimpArgs false
set_option linter.unusedVariables false
set_option maxRecDepth 100000
namespace Go.Proofs.YtehcpjodkadfnaaGreat
open Go.RowKit

/-- the reference's order of asking -/
def refB (k k2 : Int) (more : Bool) : Bool :=
  if k = k2 then true else if k ≤ 4 ∧ k2 ≤ 8 then more else if k = 9 ∧ k2 ≤ 8 then more || decide (k2 = 1) else if 5 ≤ k ∧ k ≤ 8 ∧ 5 ≤ k2 ∧ k2 ≤ 8 then more else if k ≤ 8 ∧ k2 = 10 then true else decide (k = 10) && decide (k2 = 8)
theorem may_kind {k l : Int} (h : mayB k l = true) : 1 ≤ k ∧ k ≤ 12 := by
  by_cases hk : k = 12
  · omega
  · have := mayB_of h hk
    have := (size_pos k).1 this.2
    omega
theorem casts_ref {k l k2 l2 : Int} (h : mayB k l = true) (h2 : mayB k2 l2 = true) : castsB k l k2 l2 = refB k k2 (decide (longZ k l < longZ k2 l2)) := by
  have b1 := may_kind h
  have b2 := may_kind h2
  have hz : ∀ {k l : Int}, mayB k l = true → longZ k l ≠ 0 := fun {k l} h => by
    by_cases hk : k = 12
    · subst hk
      have := btw_iff.1 (mayB_12 ▸ h)
      rw [long_12 h]; omega
    · have := long_cases h hk; omega
  have n1 := hz h
  have n2 := hz h2
  have e9 : k = 9 → longZ k l = 1 := fun e => by subst e; rw [longZ, if_pos h]; rfl
  have e2 : k2 = 2 → longZ k2 l2 = 2 := fun e => by subst e; rw [longZ, if_pos h2]; rfl
  have e3 : k2 = 3 → longZ k2 l2 = 4 := fun e => by subst e; rw [longZ, if_pos h2]; rfl
  have e4 : k2 = 4 → longZ k2 l2 = 8 := fun e => by subst e; rw [longZ, if_pos h2]; rfl
  unfold castsB refB
  generalize longZ k l = x at *
  generalize longZ k2 l2 = y at *
  clear hz h h2
  rw [Bool.eq_iff_iff]
  simp only [btw, decide_eq_true_eq]
  rcases (by omega : k ≤ 4 ∨ (5 ≤ k ∧ k ≤ 8) ∨ k = 9 ∨ 10 ≤ k) with c | c | c | c
  all_goals grind (splits := 30)
end Go.Proofs.YtehcpjodkadfnaaGreat
/- Layer 5's reference, sixth part: the float64 next to a number. -/
set_option linter.unusedSimpArgs false
set_option linter.unusedVariables false
set_option maxRecDepth 100000
namespace Go.Proofs.YtehcpjodkadfnaaGreat
open Go.RowKit

/-- the last bit that was cut, behind k rounds -/
def hlB (m : Nat) : Nat → Bool
  | 0 => false
  | k + 1 => (((m / 2 ^ k : Nat) : Int) % 2 == 1)
/-- was any bit cut before it? -/
def ltB (m : Nat) : Nat → Bool
  | 0 => false
  | k + 1 => !(decide (m % 2 ^ k = 0))
theorem lo_step (m k : Nat) : ltB m (k + 1) = (ltB m k || hlB m k) := by
  cases k with
  | zero => simp [ltB, hlB, Nat.mod_one]
  | succ j =>
    have hp := Nat.two_pow_pos j
    simp only [ltB, hlB]
    rw [Nat.mod_pow_succ]
    have h2 : m / 2 ^ j % 2 = 0 ∨ m / 2 ^ j % 2 = 1 := by omega
    rw [Bool.eq_iff_iff]
    simp only [Bool.not_eq_true', decide_eq_false_iff_not, Bool.or_eq_true, beq_iff_eq]
    generalize 2 ^ j = P at *
    generalize m / P = Q at *
    rcases h2 with h | h
    · rw [h]; omega
    · rw [h]; omega
theorem rup_is (m : Nat) (h : 52 < m.log2) : rup m = (hlB m (m.log2 - 52) && (ltB m (m.log2 - 52) || ((sgn m : Int) % 2 == 1))) := by
  have hs : sgn m = m / 2 ^ (m.log2 - 52) := by rw [sgn, if_neg (by omega)]
  rw [hs, rup, decide_eq_true h, Bool.true_and]
  obtain ⟨j, hj⟩ : ∃ j, m.log2 - 52 = j + 1 := ⟨m.log2 - 53, by omega⟩
  rw [hj]
  simp only [ltB, hlB]
  have e := Nat.mod_pow_succ (x := m) (b := 2) (k := j)
  rw [e]
  clear e
  have hp := Nat.two_pow_pos j
  have h2 : m / 2 ^ j % 2 = 0 ∨ m / 2 ^ j % 2 = 1 := by omega
  have hlt := Nat.mod_lt m hp
  rw [Nat.pow_succ]
  generalize m / (2 ^ j * 2) = R at *
  generalize 2 ^ j = P at *
  generalize m % P = S at *
  generalize m / P = Q at *
  rw [Bool.eq_iff_iff]
  simp only [Bool.or_eq_true, Bool.and_eq_true, decide_eq_true_eq, beq_iff_eq, Bool.not_eq_true', decide_eq_false_iff_not]
  rcases h2 with h | h
  · rw [h]; omega
  · rw [h]; omega
theorem div_big {m k : Nat} (h0 : m ≠ 0) (h : k < m.log2 - 52) : 9007199254740992 ≤ m / 2 ^ k := by
  have h1 := Nat.log2_self_le h0
  rw [Nat.le_div_iff_mul_le (Nat.two_pow_pos k)]
  calc 9007199254740992 * 2 ^ k = 2 ^ (53 + k) := by rw [Nat.pow_add]
    _ ≤ 2 ^ m.log2 := Nat.pow_le_pow_right (by decide) (by omega)
    _ ≤ m := h1
theorem mul_small {m k : Nat} (h0 : m ≠ 0) (h : k < 52 - m.log2) : m * 2 ^ k < 4503599627370496 := by
  have h1 : m < 2 ^ (m.log2 + 1) := Nat.lt_log2_self
  calc m * 2 ^ k < 2 ^ (m.log2 + 1) * 2 ^ k := Nat.mul_lt_mul_of_pos_right h1 (Nat.two_pow_pos k)
    _ = 2 ^ (m.log2 + 1 + k) := by rw [← Nat.pow_add]
    _ ≤ 2 ^ 52 := Nat.pow_le_pow_right (by decide) (by omega)
/-- what the reference's Float gives -/
def refF (m : Nat) (minus : Bool) : Int := if m = 0 then 0 else (fBits minus m : Int)

end Go.Proofs.YtehcpjodkadfnaaGreat
/- Layer 5's reference, seventh part: casts. -/
set_option linter.unusedSimpArgs false
set_option linter.unusedVariables false
set_option maxRecDepth 100000
namespace Go.Proofs.YtehcpjodkadfnaaGreat
open Go.RowKit

theorem refF_plain (m : Nat) : refF m false = (fBits false m : Int) := by
  unfold refF
  split
  · rename_i h; subst h; rfl
  · rfl
theorem refF_minus (m : Nat) (h : m ≠ 0) : refF m true = (fBits true m : Int) := by rw [refF, if_neg h]
end Go.Proofs.YtehcpjodkadfnaaGreat
/- Layer 5's reference, eighth part: bytes that are cast; every cast. -/
set_option linter.unusedSimpArgs false
set_option linter.unusedVariables false
set_option maxRecDepth 100000
namespace Go.Proofs.YtehcpjodkadfnaaGreat
open Go.RowKit
/-- what the out value holds, and that it can be written, while 'Zero' is called -/
structure CS (w0 w : World) (q : Nat) (bits : Int) (tx s s2 : ByteArray) (l n : Int) : Prop where
  v : VBox w w0.heap.size 12 bits tx
  t : FBox w (w0.heap.size + 1 + 1) s2 12 n
  r : VBox w (w0.heap.size + 1 + 1 + 1) 0 0 ⟨#[]⟩
  o : VBox w q 12 bits ⟨#[]⟩
  fr : ∀ i, w.frozen? ⟨w0.heap.size + 1 + 1 + 1, i, none⟩ = false
  fo : ∀ i, w.frozen? ⟨q, i, none⟩ = false
  hq : q < w.heap.size
theorem CS.below {w0 w w1 : World} {q : Nat} {bits : Int} {tx s s2 : ByteArray} {l n : Int} (h : CS w0 w q bits tx s s2 l n) (hb : Below w.heap.size w w1) : CS w0 w1 q bits tx s s2 l n := by
  have hr := World.block_lt_of_cell? w _ h.r.1
  exact ⟨h.v.below hb, h.t.below hb, h.r.below hb, h.o.below hb, fun i => ((bcell hb).2 _ i hr).trans (h.fr i), fun i => ((bcell hb).2 _ i h.hq).trans (h.fo i), by have := hb.size; have := h.hq; omega⟩
theorem pad_is (tx : ByteArray) (n : Nat) : (tx ++ strL (List.replicate n 0)).extract 0 n = strL (padL (bl tx) n) := by
  have e : tx = strL (bl tx) := (strL_bl tx).symm
  rw [e, strL_append, strL_extract, bl_strL]
  congr 1
  unfold padL
  rw [List.take_append, List.take_replicate]
  congr 2
  omega
end Go.Proofs.YtehcpjodkadfnaaGreat
/- Layers 7 and 8 of the heap, tables, first part: rows of moves; what a right table is. -/
set_option linter.unusedSimpArgs false
set_option linter.unusedVariables false
set_option maxRecDepth 100000
namespace Go.Proofs.YtehcpjodkadfnaaGreat
open Go.RowKit

/-- where a field comes from -/
structure Mv where
  f : Int
  d : Vl
/-- a table -/
structure Tb where
  o : List Fd
  n : List Fd
  m : List Mv
instance : DecidableEq Vl := fun a b => decidable_of_iff (a.k = b.k ∧ a.b = b.b ∧ a.t = b.t) (by cases a; cases b; simp)
instance : DecidableEq Mv := fun a b => decidable_of_iff (a.f = b.f ∧ a.d = b.d) (by cases a; cases b; simp)
/-- moves, as memory holds them -/
def cellsM (ms : List Mv) : List Value := ms.flatMap fun m => [.int .i64 m.f, .int .i64 m.d.k, .int .u64 m.d.b, .string m.d.t]
theorem cellsM_length (ms : List Mv) : (cellsM ms).length = 4 * ms.length := by
  induction ms with
  | nil => rfl
  | cons v r ih => simp only [cellsM, List.flatMap_cons, List.length_append, List.length_cons, List.length_nil] at *; omega
theorem cellsM_append (a b : List Mv) : cellsM (a ++ b) = cellsM a ++ cellsM b := by simp [cellsM]
theorem cellsM_get {ms : List Mv} {i : Nat} {m : Mv} (h : ms[i]? = some m) : (cellsM ms)[i * 4]? = some (.int .i64 m.f) ∧ (cellsM ms)[i * 4 + 1]? = some (.int .i64 m.d.k) ∧ (cellsM ms)[i * 4 + 2]? = some (.int .u64 m.d.b) ∧ (cellsM ms)[i * 4 + 3]? = some (.string m.d.t) := by
  induction ms generalizing i with
  | nil => simp at h
  | cons g r ih =>
    cases i with
    | zero => simp at h; subst h; exact ⟨rfl, rfl, rfl, rfl⟩
    | succ i =>
      have := ih (i := i) (by simpa using h)
      rw [cellsM, List.flatMap_cons]
      refine ⟨?_, ?_, ?_, ?_⟩
      · rw [show (i + 1) * 4 = i * 4 + 4 by omega, List.getElem?_append_right (by simp)]; simpa [cellsM] using this.1
      · rw [show (i + 1) * 4 + 1 = i * 4 + 1 + 4 by omega, List.getElem?_append_right (by simp)]; simpa [cellsM] using this.2.1
      · rw [show (i + 1) * 4 + 2 = i * 4 + 2 + 4 by omega, List.getElem?_append_right (by simp)]; simpa [cellsM] using this.2.2.1
      · rw [show (i + 1) * 4 + 3 = i * 4 + 3 + 4 by omega, List.getElem?_append_right (by simp)]; simpa [cellsM] using this.2.2.2
theorem Rd.mv {w : World} {A : Option Addr} {ms : List Mv} (h : Rd w A (cellsM ms)) {k : Nat} {m : Mv} (hm : ms[k]? = some m) : ∃ ad, A = some ad ∧ w.cell? (ad.add (k * 4)) = some (.int .i64 m.f) ∧ w.cell? ⟨(ad.add (k * 4)).block, (ad.add (k * 4)).off + (0 + 1), none⟩ = some (.int .i64 m.d.k) ∧
    w.cell? ⟨(ad.add (k * 4)).block, (ad.add (k * 4)).off + (1 + 1), none⟩ = some (.int .u64 m.d.b) ∧ w.cell? ⟨(ad.add (k * 4)).block, (ad.add (k * 4)).off + (2 + 1), none⟩ = some (.string m.d.t) := by
  obtain ⟨g0, g1, g2, g3⟩ := cellsM_get hm
  obtain ⟨ad, rfl, h0⟩ := h.at g0
  obtain ⟨_, e1, h1⟩ := h.at g1
  obtain ⟨_, e2, h2⟩ := h.at g2
  obtain ⟨_, e3, h3⟩ := h.at g3
  cases e1; cases e2; cases e3
  rw [add_part _ _ 0] at h1
  rw [add_part _ _ 1] at h2
  rw [add_part _ _ 2] at h3
  exact ⟨ad, rfl, h0, h1, h2, h3⟩
/-- may a move be, of a table's fields? -/
def okMv (o : List Fd) (g : Fd) (m : Mv) : Bool :=
  if m.f = -1 then rightB m.d.k m.d.b m.d.t g.k g.l && (decide (g.k ≠ 11) || decide (m.d.b = 0))
  else decide (0 ≤ m.f) && (match o[m.f.toNat]? with | none => false | some f => decide (m.d = Vl.z) && castsB f.k f.l g.k g.l)
def okAt (t : Tb) (k : Nat) : Bool := match t.m[k]?, t.n[k]? with | some m, some g => okMv t.o g m | _, _ => false
/-- may a table be? -/
def rightT (t : Tb) : Bool := rightF t.o && rightF t.n && decide (t.m.length = t.n.length) && decide (∀ k, k < t.m.length → okAt t k = true)
/-- are two tables alike? -/
def sameT (a b : Tb) : Bool := decide (a.o = b.o) && decide (a.n = b.n) && decide (a.m = b.m)
/-- the table that changes nothing -/
def keepT (l : List Fd) : Tb := if rightF l = true then ⟨l, l, (List.range l.length).map fun k : Nat => ⟨(k : Int), Vl.z⟩⟩ else ⟨[], [], []⟩
/-- the numbers of moves are words -/
def MvW (ms : List Mv) : Prop := ∀ m ∈ ms, 0 ≤ m.d.b ∧ m.d.b < 18446744073709551616
/-- a table, as a value, and what it points to -/
def TV (w : World) (v : Value) (t : Tb) : Prop := ∃ A c B d C e, v = .agg #[.slice A t.o.length c, .slice B t.n.length d, .slice C t.m.length e] ∧ Rd w A (cellsF t.o) ∧ Rd w B (cellsF t.n) ∧ Rd w C (cellsM t.m)
theorem TV.below {w w1 : World} {v : Value} {t : Tb} (h : TV w v t) (hb : Below w.heap.size w w1) : TV w1 v t := by
  obtain ⟨A, c, B, d, C, e, hv, h0, h1, h2⟩ := h
  exact ⟨A, c, B, d, C, e, hv, h0.below hb, h1.below hb, h2.below hb⟩
end Go.Proofs.YtehcpjodkadfnaaGreat
/- Layers 7 and 8 of the heap, tables, second part: whether two tables are alike. -/
set_option linter.unusedSimpArgs false
set_option linter.unusedVariables false
set_option maxRecDepth 100000
namespace Go.Proofs.YtehcpjodkadfnaaGreat
open Go.RowKit

def TBox (w : World) (b : Nat) (x y z : Value) : Prop := w.cell? ⟨b, 0, none⟩ = some x ∧ w.cell? ⟨b, 1, none⟩ = some y ∧ w.cell? ⟨b, 2, none⟩ = some z
theorem TBox.below {w w1 : World} {b : Nat} {x y z : Value} (h : TBox w b x y z) (hb : Below w.heap.size w w1) : TBox w1 b x y z := ⟨cell_below (B := 0) hb h.1, cell_below (B := 0) hb h.2.1, cell_below (B := 0) hb h.2.2⟩
theorem TBox.new (w : World) (x y z : Value) (T : TypeId) : TBox (w.alloc (.cells #[x, y, z] T)) w.heap.size x y z := ⟨cell_new _ _ _ _ _ rfl, cell_new _ _ _ _ _ rfl, cell_new _ _ _ _ _ rfl⟩
theorem mv_ways (x y : Mv) : (¬ x = y ∧ (¬ x.f = y.f ∨ (x.f = y.f ∧ ¬ x.d.k = y.d.k) ∨ (x.f = y.f ∧ x.d.k = y.d.k ∧ ¬ x.d.b = y.d.b) ∨ (x.f = y.f ∧ x.d.k = y.d.k ∧ x.d.b = y.d.b ∧ ¬ x.d.t.toList = y.d.t.toList))) ∨ (x = y ∧ x.f = y.f ∧ x.d.k = y.d.k ∧ x.d.b = y.d.b ∧ x.d.t.toList = y.d.t.toList) := by
  simp only [toList_iff]
  have e : x = y ↔ x.f = y.f ∧ x.d.k = y.d.k ∧ x.d.b = y.d.b ∧ x.d.t = y.d.t := by
    obtain ⟨f, k, b, t⟩ := x; obtain ⟨f', k', b', t'⟩ := y; simp
  rw [e]
  by_cases h1 : x.f = y.f <;> by_cases h2 : x.d.k = y.d.k <;> by_cases h3 : x.d.b = y.d.b <;> by_cases h4 : x.d.t = y.d.t <;> simp [h1, h2, h3, h4]
end Go.Proofs.YtehcpjodkadfnaaGreat
/- Layers 7 and 8 of the heap, tables, third part: rows of fields are cloned. -/
set_option linter.unusedSimpArgs false
set_option linter.unusedVariables false
set_option maxRecDepth 100000
namespace Go.Proofs.YtehcpjodkadfnaaGreat
open Go.RowKit

theorem infoMv : (Tryz.prog.info? 61).map (fun i => (i.zero, i.size, i.bytes)) = some (some (.agg #[.int .i64 0, .int .i64 0, .int .u64 0, .string ⟨#[]⟩]), 4, 40) := by kernel_rfl
set_option maxHeartbeats 1600000 in
theorem CloneF_calls (A : Option Addr) (c : Nat) (l : List Fd) (w : World) (hA : Rd w A (cellsF l)) (hl : l.length ≤ 4398046511104) (hlc : l.length ≤ c) :
    Calls Tryz.prog 46 #[.slice A l.length c] w fun e w' => ∃ v, e = .returned v ∧ w'.ownsRow w.heap.size 29 3 v l.length (cellsF l) ∧ Below w.heap.size w w' := by
  obtain ⟨i0, hi, hz0, hz1, hz2⟩ := info_parts infoFd
  cases A with
  | none =>
    obtain rfl : l = [] := by
      cases l with
      | nil => rfl
      | cons x r => obtain ⟨ad, e, _⟩ := hA (by simp [cellsF]); cases e
    have heq : ∀ w : World, (binOp .eql 22 (.slice none 0 c) (.slice none 0 0)).run Tryz.prog w = .ok (.bool true) w := fun w => Lib.run_eql_slice_nil (P := Tryz.prog) w 22 29 none 0 c 0 0 Tryz.underlying22
    go_enter Tryz.func46, Tryz.ntmps46
    go_wp2
    go_ret
    exact ⟨_, rfl, own_nil _ _ _ _, Below.refl _ _⟩
  | some ad =>
    have heq : ∀ w : World, (binOp .eql 22 (.slice (some ad) l.length c) (.slice none 0 0)).run Tryz.prog w = .ok (.bool false) w := fun w => Lib.run_eql_slice_nil (P := Tryz.prog) w 22 29 (some ad) l.length c 0 0 Tryz.underlying22
    have hown : (w.alloc (.cells #[] 29)).ownsRow w.heap.size 29 3 (.slice (some ⟨w.heap.size, 0, none⟩) 0 0) 0 [] := ⟨rfl, .inr ⟨_, 0, #[], rfl, Nat.le_refl _, World.alloc_heap_new _ _, Nat.le_refl _, Nat.zero_le _, rfl, rfl⟩⟩
    have hA2 := hA.below (below_new (.cells #[] 29))
    go_enter Tryz.func46, Tryz.ntmps46
    go_wp2_with (at_builtin; refine wpList_append_own _ rfl _ _ 22 rfl w.heap.size 29 i0 (.agg #[.string ⟨#[]⟩, .int .i64 0, .int .i64 0]) 3 32 Tryz.underlying22 hi hz0 hz1 hz2 rfl (by decide) _ _ _ rfl hown ad l.length c (cellsF l) rfl ?c0 ?c1 ?c2 ?c3 ?c4 ?c5 ?_)
    case c0 => rw [cellsF_length]; omega
    case c1 =>
      intro j u hj
      obtain ⟨ad', e, h⟩ := hA2 (by rintro e; rw [e] at hj; simp at hj)
      cases e; exact h j u hj
    case c2 =>
      intro u hu
      simp only [cellsF, List.mem_flatMap] at hu
      obtain ⟨f, _, hu⟩ := hu
      simp at hu
      rcases hu with rfl | rfl | rfl <;> rfl
    case c3 => simp only [maxLen]; omega
    case c4 => omega
    case c5 => simp
    intro v' w1 hown' hgrow _
    have hB := (below_new (w := w) (.cells #[] 29)).grown hgrow (by simp) (fun q hq => own_base hown q hq)
    clear hown hgrow
    go_wp2
    go_ret
    exact ⟨_, rfl, own_eq hown' (by simp) (by simp), hB⟩
end Go.Proofs.YtehcpjodkadfnaaGreat
