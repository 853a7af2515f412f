/- Layer 6 of the heap, fields, twenty-second part: the contracts once more, their numbers under letters; the law's small functions. -/
import Derived.Test.YtepfabijmhhhcaaGu
set_option linter.unusedSimpArgs false
set_option linter.unusedVariables false
namespace Go.Proofs.Ytepfabijmhhhcaa
open Go.RowKit

theorem Right_m (A : Option Addr) (c m : Nat) (fs : List Fd) (hm : fs.length = m) (r : Bool) (h : rightF fs = r) (w : World) (hA : Rd w A (cellsF fs)) (hl : m ≤ 9223372036854775807) :
    Calls Try.prog 15 #[.slice A m c] w fun e w' => e = .returned (.bool r) ∧ Below w.heap.size w w' := by subst hm; exact FRight_is A c fs r h w hA hl
theorem rRight_m (A : Option Addr) (c m : Nat) (fs : List Fd) (hm : fs.length = m) (r : Bool) (h : rightF fs = r) (w : World) (hA : Rd w A (cellsF fs)) (hl : m ≤ 9223372036854775807) (hs : ∀ f ∈ fs, f.s.size ≤ 9223372036854775807) :
    Calls Try.prog 16 #[.slice A m c] w fun e w' => e = .returned (.bool r) ∧ Below w.heap.size w w' := by subst hm; exact rFRight_is A c fs r h w hA hl hs
theorem Layout_m (A : Option Addr) (c m : Nat) (fs : List Fd) (hm : fs.length = m) (z : Nat) (hz : sizeF fs = z) (ls : List Nat) (hls : layL fs = ls) (n : Nat) (hn : ls.length = n) (w : World) (hA : Rd w A (cellsF fs)) (hl : m ≤ 9223372036854775807) :
    Calls Try.prog 13 #[.slice A m c] w fun e w' => ∃ B c', e = .returned (.tuple #[.slice B n c', .int .i64 (z : Nat)]) ∧ Rd w' B (intsV ls) ∧ Below w.heap.size w w' := by
  subst hm hls hn
  refine (Layout_is A c fs z hz w hA hl).mono ?_
  rintro e w' ⟨B, m, c', rfl, rfl, hr, hb⟩
  exact ⟨B, c', rfl, hr, hb⟩
theorem rLayout_m (A : Option Addr) (c m : Nat) (fs : List Fd) (hm : fs.length = m) (z : Nat) (hz : sizeF fs = z) (ls : List Nat) (hls : layL fs = ls) (n : Nat) (hn : ls.length = n) (w : World) (hA : Rd w A (cellsF fs)) (hl : m ≤ 9223372036854775807) (hs : ∀ f ∈ fs, f.s.size ≤ 9223372036854775807) :
    Calls Try.prog 14 #[.slice A m c] w fun e w' => ∃ B c', e = .returned (.tuple #[.slice B n c', .int .i64 (z : Nat)]) ∧ Rd w' B (intsV ls) ∧ Below w.heap.size w w' := by
  subst hm hls hn
  refine (rLayout_is A c fs z hz w hA hl hs).mono ?_
  rintro e w' ⟨B, m, c', rfl, rfl, hr, hb⟩
  exact ⟨B, c', rfl, hr, hb⟩
theorem Refs_m (A : Option Addr) (c m : Nat) (fs : List Fd) (hm : fs.length = m) (ls : List Nat) (hls : refsL fs = ls) (n : Nat) (hn : ls.length = n) (w : World) (hA : Rd w A (cellsF fs)) (hl : m ≤ 9223372036854775807) :
    Calls Try.prog 18 #[.slice A m c] w fun e w' => ∃ B c', e = .returned (.slice B n c') ∧ Rd w' B (intsV ls) ∧ Below w.heap.size w w' := by
  subst hm hls hn
  refine (Refs_calls A c fs w hA hl).mono ?_
  rintro e w' ⟨v, rfl, ho, hb⟩
  obtain ⟨B, c', rfl, _, _, hr⟩ := own_rd ho
  exact ⟨B, c', rfl, hr, hb⟩
theorem rRefs_m (A : Option Addr) (c m : Nat) (fs : List Fd) (hm : fs.length = m) (ls : List Nat) (hls : refsL fs = ls) (n : Nat) (hn : ls.length = n) (w : World) (hA : Rd w A (cellsF fs)) (hl : m ≤ 9223372036854775807) (hs : ∀ f ∈ fs, f.s.size ≤ 9223372036854775807) :
    Calls Try.prog 19 #[.slice A m c] w fun e w' => ∃ B c', e = .returned (.slice B n c') ∧ Rd w' B (intsV ls) ∧ Below w.heap.size w w' := by
  subst hm hls hn
  refine (rRefs_calls A c fs w hA hl hs).mono ?_
  rintro e w' ⟨v, rfl, ho, hb⟩
  obtain ⟨B, c', rfl, _, _, hr⟩ := own_rd ho
  exact ⟨B, c', rfl, hr, hb⟩
theorem New_m (A : Option Addr) (c m : Nat) (fs : List Fd) (hm : fs.length = m) (z : Nat) (hz : sizeF fs = z) (w : World) (hA : Rd w A (cellsF fs)) (hl : m ≤ 9223372036854775807) :
    Calls Try.prog 20 #[.slice A m c] w fun e w' => ∃ B c', e = .returned (.slice B z c') ∧ z ≤ c' ∧ Rd w' B (bytesV (List.replicate z 0)) ∧ Below w.heap.size w w' := by
  subst hm hz
  refine (New_calls A c fs w hA hl).mono ?_
  rintro e w' ⟨v, rfl, ⟨B, c', rfl, hc, hr⟩, hb⟩
  rw [List.length_replicate] at *
  exact ⟨B, c', rfl, hc, hr, hb⟩
theorem Find_m (A : Option Addr) (c m : Nat) (fs : List Fd) (hm : fs.length = m) (nm : ByteArray) (r : Int) (h : findZ fs nm = r) (w : World) (hA : Rd w A (cellsF fs)) (hl : m ≤ 9223372036854775807) :
    Calls Try.prog 21 #[.slice A m c, .string nm] w fun e w' => e = .returned (.int .i64 r) ∧ Below w.heap.size w w' := by subst hm; exact Find_is A c fs nm r h w hA hl
theorem rFind_m (A : Option Addr) (c m : Nat) (fs : List Fd) (hm : fs.length = m) (nm : ByteArray) (r : Int) (h : findZ fs nm = r) (w : World) (hA : Rd w A (cellsF fs)) (hl : m ≤ 9223372036854775807) :
    Calls Try.prog 22 #[.slice A m c, .string nm] w fun e w' => e = .returned (.int .i64 r) ∧ w = w' := by subst hm; exact rFind_is A c fs nm r h w hA hl
theorem Get_m (Ab : Option Addr) (nb cb : Nat) (b : List UInt8) (hb0 : b.length = nb) (A : Option Addr) (c m : Nat) (fs : List Fd) (hm : fs.length = m) (nm : ByteArray) (v : Vl) (hv : getV b fs nm = v) (q : Int) (hq : getE b fs nm = q) (w : World) (hA : Rd w A (cellsF fs)) (hl : m ≤ 9223372036854775807) (hb : Rd w Ab (bytesV b)) (hcb : nb ≤ cb) :
    Calls Try.prog 25 #[.slice Ab nb cb, .slice A m c, .string nm] w fun e w' => e = .returned (.tuple #[.agg #[.int .i64 v.k, .int .u64 v.b, .string v.t], .int .i64 q]) ∧ Below w.heap.size w w' := by
  subst hb0 hm hv hq; exact Get_calls Ab cb b A c fs nm w hA hl hb hcb
theorem rGet_m (s : ByteArray) (b : List UInt8) (hsb : bl s = b) (A : Option Addr) (c m : Nat) (fs : List Fd) (hm : fs.length = m) (nm : ByteArray) (v : Vl) (hv : getV b fs nm = v) (q : Int) (hq : getE b fs nm = q) (w : World) (hA : Rd w A (cellsF fs)) (hl : m ≤ 9223372036854775807) (hs : ∀ f ∈ fs, f.s.size ≤ 9223372036854775807) :
    Calls Try.prog 26 #[.string s, .slice A m c, .string nm] w fun e w' => e = .returned (.tuple #[.agg #[.int .i64 v.k, .int .u64 v.b, .string v.t], .int .i64 q]) ∧ Below w.heap.size w w' := by
  subst hm hv hq hsb; exact rGet_calls s A c fs nm w hA hl hs
theorem Set_m (Ab : Option Addr) (nb cb : Nat) (b : List UInt8) (hb0 : b.length = nb) (A : Option Addr) (c m : Nat) (fs : List Fd) (hm : fs.length = m) (nm : ByteArray) (k u : Int) (t : ByteArray) (h0 : 0 ≤ u) (h1 : u < 18446744073709551616) (x : List UInt8) (hx : setB b fs nm ⟨k, u, t⟩ = x) (n : Nat) (hn : x.length = n) (q : Int) (hq : setE b fs nm ⟨k, u, t⟩ = q) (w : World) (hA : Rd w A (cellsF fs)) (hl : m ≤ 9223372036854775807) (hb : Rd w Ab (bytesV b)) :
    Calls Try.prog 27 #[.slice Ab nb cb, .slice A m c, .string nm, .agg #[.int .i64 k, .int .u64 u, .string t]] w fun e w' => ∃ B c', e = .returned (.tuple #[.slice B n c', .int .i64 q]) ∧ n ≤ c' ∧ Rd w' B (bytesV x) ∧ Below w.heap.size w w' := by
  subst hb0 hm hx hq hn
  refine (Set_calls Ab cb b A c fs nm ⟨k, u, t⟩ h0 h1 w hA hl hb).mono ?_
  rintro e w' ⟨v, rfl, ⟨B, c', rfl, hc, hr⟩, hb⟩
  exact ⟨B, c', rfl, hc, hr, hb⟩
theorem rSet_m (s : ByteArray) (b : List UInt8) (hsb : bl s = b) (A : Option Addr) (c m : Nat) (fs : List Fd) (hm : fs.length = m) (nm : ByteArray) (k u : Int) (t : ByteArray) (h0 : 0 ≤ u) (h1 : u < 18446744073709551616) (x : ByteArray) (hx : strL (setB b fs nm ⟨k, u, t⟩) = x) (q : Int) (hq : setE b fs nm ⟨k, u, t⟩ = q) (w : World) (hA : Rd w A (cellsF fs)) (hl : m ≤ 9223372036854775807) (hs : ∀ f ∈ fs, f.s.size ≤ 9223372036854775807) :
    Calls Try.prog 28 #[.string s, .slice A m c, .string nm, .agg #[.int .i64 k, .int .u64 u, .string t]] w fun e w' => e = .returned (.tuple #[.string x, .int .i64 q]) ∧ Below w.heap.size w w' := by
  subst hm hx hq hsb; exact rSet_calls s A c fs nm ⟨k, u, t⟩ h0 h1 w hA hl hs
theorem Encode_m (A : Option Addr) (c m : Nat) (fs : List Fd) (hm : fs.length = m) (x : List UInt8) (hx : wrL fs = x) (n : Nat) (hn : x.length = n) (q : Int) (hq : wrE fs = q) (w : World) (hA : Rd w A (cellsF fs)) (hl : m ≤ 9223372036854775807) :
    Calls Try.prog 31 #[.slice A m c] w fun e w' => ∃ B c', e = .returned (.tuple #[.slice B n c', .int .i64 q]) ∧ n ≤ c' ∧ Rd w' B (bytesV x) ∧ Below w.heap.size w w' := by
  subst hm hx hq hn
  refine (FEncode_calls A c fs w hA hl).mono ?_
  rintro e w' ⟨v, rfl, ⟨B, c', rfl, hc, hr⟩, hb⟩
  exact ⟨B, c', rfl, hc, hr, hb⟩
theorem Same3_m (A B : Option Addr) (c d m n : Nat) (a b : List Nat) (ha : a.length = m) (hb : b.length = n) (r : Bool) (hr : decide (a = b) = r) (w : World) (hA : Rd w A (intsV a)) (hB : Rd w B (intsV b)) (hm : m ≤ 9223372036854775807) (hn : n ≤ 9223372036854775807) :
    Calls Try.prog 17 #[.slice A m c, .slice B n d] w fun e w' => e = .returned (.bool r) ∧ Below w.heap.size w w' := by
  subst ha hb hr; exact Same3_calls A B c d a b w hA hB hm hn
theorem Same6_m (A B : Option Addr) (c d m n : Nat) (a b : List Fd) (ha : a.length = m) (hb : b.length = n) (r : Bool) (hr : sameFB a b = r) (w : World) (hA : Rd w A (cellsF a)) (hB : Rd w B (cellsF b)) (hm : m ≤ 9223372036854775807) (hn : n ≤ 9223372036854775807) :
    Calls Try.prog 35 #[.slice A m c, .slice B n d] w fun e w' => e = .returned (.bool r) ∧ Below w.heap.size w w' := by
  subst ha hb hr; exact rSame_calls A B c d a b w hA hB hm hn
def FewP (fs : List Fd) (w : World) (e : Ending) (w' : World) : Prop := ∃ r : Bool, e = .returned (.bool r) ∧ (r = true → fs.length ≤ 40) ∧ Below w.heap.size w w'
theorem few_calls (A : Option Addr) (c : Nat) (fs : List Fd) (w : World) (hA : Rd w A (cellsF fs)) (hl : fs.length ≤ 9223372036854775807) :
    Calls Try.prog 11 #[.slice A fs.length c] w (FewP fs w) := by
  go_enter Try.func11, Try.ntmps11
  go_wp2
  go_loopw [3, 5, 8] (fun n _ i wr => ∃ (k : Nat) (z : Int), k ≤ fs.length ∧ i = .int .i64 k ∧ n = .int .i64 z ∧ Below w.heap.size w wr) (fun _ _ i _ => fs.length - (intOf i).toNat)
  case atStart => exact ⟨0, 0, by omega, rfl, rfl, Below.refl _ _⟩
  case round =>
    obtain ⟨k, z, hk, rfl, rfl, HB⟩ := hrel
    have hAr := hA.below HB
    by_cases hlt : k < fs.length
    · obtain ⟨f, hf⟩ : ∃ f, fs[k]? = some f := ⟨_, List.getElem?_eq_getElem hlt⟩
      obtain ⟨ad, rfl, c0, c1, c2⟩ := hAr.fld hf
      clear hA hAr hf
      go_wp2
      go_roundw
      case rel => exact ⟨k + 1, _, by omega, by go_num, rfl, HB.alloc HB.size _⟩
      case measure => simp [intOf]; omega
    · obtain rfl : k = fs.length := by omega
      clear hA hAr
      go_wp2
      all_goals
        go_ret
        refine ⟨_, rfl, ?_, HB⟩
        intro h
        first | omega | (simp at h; done) | (simp at h; omega)
end Go.Proofs.Ytepfabijmhhhcaa
