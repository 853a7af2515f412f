/- Layer 1 of the heap, its words, third part: numbers of bytes. -/
import Derived.Test.YtepfabijmhhhcaaKb
import Derived.Laws.Bits64b
import Derived.Lib.Hide
set_option linter.unusedSimpArgs false
set_option linter.unusedVariables false
namespace Go.Proofs.Ytepfabijmhhhcaa
open Go.RowKit

/-- the number of bytes, the lowest first -/
def numN : List UInt8 → Nat
  | [] => 0
  | b :: r => b.toNat + 256 * numN r
def numL (l : List UInt8) : Int := (numN l : Int)
theorem numN_append (a b : List UInt8) : numN (a ++ b) = numN a + 2 ^ (8 * a.length) * numN b := by
  induction a with
  | nil => simp [numN]
  | cons x a ih =>
    simp only [List.cons_append, numN, ih, List.length_cons, Nat.mul_add (8 : Nat), Nat.pow_add, Nat.mul_add 256]
    rw [Nat.mul_comm (2 ^ (8 * a.length)) (2 ^ (8 * 1)), Nat.mul_assoc, Nat.add_assoc]
theorem numN_lt (l : List UInt8) : numN l < 2 ^ (8 * l.length) := by
  induction l with
  | nil => simp [numN]
  | cons b l ih =>
    have := b.toNat_lt
    simp only [numN, List.length_cons, Nat.mul_add (8 : Nat), Nat.pow_add]
    omega
theorem pow_le64 {k : Nat} (h : k ≤ 8) : 2 ^ (8 * k) ≤ 18446744073709551616 := Nat.le_trans (Nat.pow_le_pow_right (by decide) (show 8 * k ≤ 64 by omega)) (by decide)
theorem numL_bd (l : List UInt8) (h : l.length ≤ 8) : 0 ≤ numL l ∧ numL l < 18446744073709551616 := by
  have := numN_lt l; have := pow_le64 h; unfold numL; omega
theorem numL_snoc (l : List UInt8) (b : UInt8) (k : Nat) (hl : l.length = k) (hk : k < 8) : bits .or .u64 (numL l) (IntKind.u64.wrap (IntKind.u64.wrap (b.toNat : Int) * 2 ^ (8 * k))) = numL (l ++ [b]) := by
  have h1 := numN_lt l
  have h2 := b.toNat_lt
  have h3 := pow_le64 (show k + 1 ≤ 8 by omega)
  rw [hl] at h1
  rw [Nat.mul_add, Nat.pow_add] at h3
  have h4 : b.toNat * 2 ^ (8 * k) ≤ 255 * 2 ^ (8 * k) := Nat.mul_le_mul_right _ (by omega)
  have e : IntKind.u64.wrap (IntKind.u64.wrap (b.toNat : Int) * 2 ^ (8 * k)) = ((2 ^ (8 * k) * b.toNat : Nat) : Int) := by
    rw [IntKind.wrap_u64 (b.toNat : Int), Int.emod_eq_of_lt (by omega) (by omega), IntKind.wrap_u64, Int.emod_eq_of_lt (by exact Int.mul_nonneg (by omega) (Int.pow_nonneg (by decide))) (by
      have : ((b.toNat * 2 ^ (8 * k) : Nat) : Int) < 18446744073709551616 := by omega
      simpa using this)]
    push_cast
    rw [Int.mul_comm]
  rw [e, numL, bits_or_u64_nat _ _ (by omega) (by rw [Nat.mul_comm]; omega), Nat.or_comm, ← Nat.two_pow_add_eq_or_of_lt h1, numL, numN_append, hl]
  simp [numN, Nat.add_comm]

def insB (at_ n width : Int) : Bool := decide (0 ≤ at_ ∧ at_ ≤ n ∧ width ≤ n - at_)

theorem inside_calls (pb pat pw : Nat) (A : Option Addr) (n c : Nat) (at_ width : Int) (w : World) (h1 : w.cell? ⟨pat, 0, none⟩ = some (.int .i64 at_)) (h2 : w.cell? ⟨pb, 0, none⟩ = some (.slice A n c)) (h3 : w.cell? ⟨pw, 0, none⟩ = some (.int .i64 width)) (hn : n ≤ 9223372036854775807) :
    Calls Try.prog 63 #[.pointer (some ⟨pat, 0, none⟩), .pointer (some ⟨pb, 0, none⟩), .pointer (some ⟨pw, 0, none⟩)] w fun e w' => e = .returned (.bool (insB at_ n width)) ∧ w = w' := by
  go_enter Try.func63, Try.ntmps63
  go_wp2
  all_goals
    go_ret
    refine ⟨ret_bool ?_, rfl⟩
    rw [Bool.eq_iff_iff]
    simp [insB]
    try omega

theorem Get_none (A : Option Addr) (n c : Nat) (at_ : Int) (width : Int) (w : World) (hn : n ≤ 9223372036854775807) (h : widthB width = false ∨ insB at_ n width = false) :
    Calls Try.prog 50 #[.slice A n c, .int .i64 at_, .int .i64 width] w fun e w' => e = .returned (.tuple #[.int .u64 0, .bool false]) ∧ Below w.heap.size w w' := by
  have hmf : ∀ (fn : Fn) (first cap : Array Value) (w : World), (Instr.makeFunc fn first cap).run Try.prog w = .ok (.func fn first cap) w := fun _ _ _ _ => rfl
  by_cases hb : widthB width = true
  · have h' : insB at_ n width = false := h.resolve_left (by rw [hb]; decide)
    clear h
    go_enter Try.func50, Try.ntmps50
    go_wp2_with (first | (go_at_call 64; refine (right_calls _ _).mono ?_; rintro e w' ⟨rfl, rfl⟩) | (go_at_call 63; refine (inside_calls _ _ _ A n c at_ width _ (by simp [go_sem]) (by simp [go_sem]) (by simp [go_sem]) hn).mono ?_; rintro e w' ⟨rfl, rfl⟩))
    go_ret2
    exact ⟨rfl, (((Below.refl _ _).alloc (Nat.le_refl _) _).alloc (by simp) _).alloc (by simp; omega) _⟩
  · clear h
    rw [Bool.not_eq_true] at hb
    go_enter Try.func50, Try.ntmps50
    go_wp2_with (first | (go_at_call 64; refine (right_calls _ _).mono ?_; rintro e w' ⟨rfl, rfl⟩))
    go_ret2
    exact ⟨rfl, (((Below.refl _ _).alloc (Nat.le_refl _) _).alloc (by simp) _).alloc (by simp; omega) _⟩

theorem Get_some (A : Option Addr) (c : Nat) (l : List UInt8) (at_ : Nat) (width : Nat) (w : World) (hA : Rd w A (bytesV l)) (hw : width ≤ 8) (hwb : widthB width = true) (h1 : at_ + width ≤ l.length) (hl : l.length ≤ 9223372036854775807) :
    Calls Try.prog 50 #[.slice A l.length c, .int .i64 at_, .int .i64 width] w fun e w' => e = .returned (.tuple #[.int .u64 (numL ((l.drop at_).take width)), .bool true]) ∧ Below w.heap.size w w' := by
  have hmf : ∀ (fn : Fn) (first cap : Array Value) (w : World), (Instr.makeFunc fn first cap).run Try.prog w = .ok (.func fn first cap) w := fun _ _ _ _ => rfl
  have hin : insB at_ l.length width = true := by simp [insB]; omega
  go_enter Try.func50, Try.ntmps50
  go_wp2_with (first | (go_at_call 64; refine (right_calls _ _).mono ?_; rintro e w' ⟨rfl, rfl⟩) | (go_at_call 63; refine (inside_calls _ _ _ A l.length c at_ width _ (by simp [go_sem]) (by simp [go_sem]) (by simp [go_sem]) hl).mono ?_; rintro e w' ⟨rfl, rfl⟩))
  obtain ⟨W, hW⟩ : ∃ W : World, W = ((w.alloc (.cells #[.slice A l.length c] 30)).alloc (.cells #[.int .i64 at_] 3)).alloc (.cells #[.int .i64 width] 3) := ⟨_, rfl⟩
  have hBW : Below w.heap.size w W := hW ▸ (((Below.refl _ _).alloc (Nat.le_refl _) _).alloc (by simp) _).alloc (by simp; omega) _
  have hg3 : W.cell? ⟨w.heap.size, 0, none⟩ = some (.slice A l.length c) := by rw [hW]; simp [go_sem]
  have hg4 : W.cell? ⟨w.heap.size + 1, 0, none⟩ = some (.int .i64 at_) := by rw [hW]; simp [go_sem]
  have hAW := hA.below hBW
  rw [← hW]
  clear hA hW
  go_loop [9, 21] (fun n i => ∃ k : Nat, k ≤ width ∧ i = .int .i64 k ∧ n = .int .u64 (numL ((l.drop at_).take k))) (fun _ i => width - (intOf i).toNat)
  case atStart => exact ⟨0, by omega, rfl, by simp [numL, numN]⟩
  case round =>
    obtain ⟨k, hk, rfl, rfl⟩ := hrel
    by_cases hlt : k < width
    · obtain ⟨ad, rfl, hc⟩ := hAW (by intro h; have := congrArg List.length h; simp [bytesV] at this; subst this; simp at h1; omega)
      have hcell := hc (at_ + k) (.int .u8 ((l[at_ + k]'(by omega)).toNat : Int)) (by simp [bytesV, List.getElem?_eq_getElem (show at_ + k < l.length by omega)])
      clear hc
      have hts : (l.drop at_).take (k + 1) = (l.drop at_).take k ++ [l[at_ + k]'(by omega)] := by
        rw [List.take_succ_eq_append_getElem (by simp; omega)]; simp
      have hsn := numL_snoc ((l.drop at_).take k) (l[at_ + k]'(by omega)) k (by simp; omega) (by omega)
      have H := Lib.hid hsn
      have H2 := Lib.hid hts
      clear hsn hts
      go_wp2
      go_round
      case rel => exact ⟨k + 1, by omega, by go_num, by rw [H.out, H2.out]⟩
      case measure => simp [intOf]; omega
    · go_wp2
      go_ret2
      obtain rfl : k = width := by omega
      exact ⟨rfl, hBW⟩

theorem rGet_none (s : ByteArray) (at_ : Int) (width : Int) (w : World) (hn : s.size ≤ 9223372036854775807) (h : widthB width = false ∨ insB at_ s.size width = false) :
    Calls Try.prog 57 #[.string s, .int .i64 at_, .int .i64 width] w fun e w' => e = .returned (.tuple #[.int .u64 0, .bool false]) ∧ w = w' := by
  by_cases hb : widthB width = true
  · have h' : insB at_ s.size width = false := h.resolve_left (by rw [hb]; decide)
    have h2 : 0 ≤ at_ → at_ ≤ s.size → s.size - at_ < width := by
      intro a b
      have : ¬ (0 ≤ at_ ∧ at_ ≤ s.size ∧ width ≤ s.size - at_) := by simpa [insB] using h'
      omega
    clear h h'
    by_cases h3 : 0 ≤ at_
    · by_cases h4 : at_ ≤ s.size
      · have h5 := h2 h3 h4
        clear h2
        go_enter Try.func57, Try.ntmps57
        go_wp2_with (first | (go_at_call 61; refine (rRight_calls _ _).mono ?_; rintro e w' ⟨rfl, rfl⟩))
        go_ret2
        exact ⟨rfl, rfl⟩
      · clear h2
        go_enter Try.func57, Try.ntmps57
        go_wp2_with (first | (go_at_call 61; refine (rRight_calls _ _).mono ?_; rintro e w' ⟨rfl, rfl⟩))
        go_ret2
        exact ⟨rfl, rfl⟩
    · clear h2
      go_enter Try.func57, Try.ntmps57
      go_wp2_with (first | (go_at_call 61; refine (rRight_calls _ _).mono ?_; rintro e w' ⟨rfl, rfl⟩))
      go_ret2
      exact ⟨rfl, rfl⟩
  · clear h
    rw [Bool.not_eq_true] at hb
    go_enter Try.func57, Try.ntmps57
    go_wp2_with (first | (go_at_call 61; refine (rRight_calls _ _).mono ?_; rintro e w' ⟨rfl, rfl⟩))
    go_ret2
    exact ⟨rfl, rfl⟩

theorem rGet_some (s : ByteArray) (at_ : Nat) (width : Nat) (w : World) (hw : width ≤ 8) (hwb : widthB width = true) (h1 : at_ + width ≤ s.size) (hl : s.size ≤ 9223372036854775807) :
    Calls Try.prog 57 #[.string s, .int .i64 at_, .int .i64 width] w fun e w' => e = .returned (.tuple #[.int .u64 (numL (((bl s).drop at_).take width)), .bool true]) ∧ w = w' := by
  have d1 : decide (s.size < at_) = false := by simp; omega
  have d2 : decide ((at_ : Int) < 0) = false := by simp
  have d3 : decide ((s.size : Int) - at_ < width) = false := by simp; omega
  go_enter Try.func57, Try.ntmps57
  go_wp2_with (first | (go_at_call 61; refine (rRight_calls _ _).mono ?_; rintro e w' ⟨rfl, rfl⟩))
  go_loop [8, 9] (fun n i => ∃ k : Nat, k ≤ width ∧ i = .int .i64 ((k : Int) - 1) ∧ n = .int .u64 (numL ((((bl s).drop at_).take width).drop k))) (fun _ i => (intOf i + 1).toNat)
  case atStart => exact ⟨width, by omega, rfl, by rw [List.drop_of_length_le (by simp; omega)]; rfl⟩
  case round =>
    obtain ⟨k, hk, rfl, rfl⟩ := hrel
    by_cases hlt : 0 < k
    · obtain ⟨j, rfl⟩ : ∃ j, k = j + 1 := ⟨k - 1, by omega⟩
      rw [show (((j + 1 : Nat) : Int) - 1) = (j : Int) by omega]
      have hj : at_ + j < s.size := by omega
      obtain ⟨y, hy⟩ : ∃ y, y = numL ((((bl s).drop at_).take width).drop (j + 1)) := ⟨_, rfl⟩
      have hyl := numN_lt ((((bl s).drop at_).take width).drop (j + 1))
      have hp := pow_le64 (show ((((bl s).drop at_).take width).drop (j + 1)).length + 1 ≤ 8 by simp; omega)
      have hdr : (((bl s).drop at_).take width).drop j = s[at_ + j] :: (((bl s).drop at_).take width).drop (j + 1) := by
        rw [List.drop_eq_getElem_cons (by simp [bl_length]; omega)]
        simp [bl]; rfl
      have hval : numL ((((bl s).drop at_).take width).drop j) = y * 256 + (s[at_ + j].toNat : Int) := by
        rw [hdr, hy]; simp [numL, numN]; omega
      have hyb : 0 ≤ y ∧ y * 256 + 256 ≤ 18446744073709551616 := by
        rw [Nat.mul_add, Nat.pow_add] at hp
        subst hy; unfold numL; omega
      obtain ⟨hy0, hy1⟩ := hyb
      have hbt := s[at_ + j].toNat_lt
      rw [← hy]
      have H := Lib.hid hval
      clear hval hdr hyl hp hy
      go_wp2
      go_round
      case rel => exact ⟨j, by omega, rfl, by rw [H.out]⟩
      case measure => simp [intOf]
    · go_wp2
      go_ret2
      obtain rfl : k = 0 := by omega
      exact ⟨rfl, rfl⟩
end Go.Proofs.Ytepfabijmhhhcaa
