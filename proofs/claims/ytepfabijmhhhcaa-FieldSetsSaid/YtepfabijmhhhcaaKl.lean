/- Layer 5's reference, second part: zero values, bytes of values, values of bytes. -/
import Derived.Test.YtepfabijmhhhcaaKk
set_option linter.unusedSimpArgs false
set_option linter.unusedVariables false
namespace Go.Proofs.Ytepfabijmhhhcaa
open Go.RowKit

theorem FBox.far {w : World} {b : Nat} {s : ByteArray} {k l : Int} (h : FBox w b s k l) {p : Addr} (hp : p.block ≠ b) (v : Value) : FBox (w.setCell p v) b s k l :=
  ⟨(World.cell?_setCell_far w p _ v hp).trans h.1, (World.cell?_setCell_far w p _ v hp).trans h.2.1, (World.cell?_setCell_far w p _ v hp).trans h.2.2⟩
theorem VBox.far {w : World} {b : Nat} {k x : Int} {t : ByteArray} (h : VBox w b k x t) {p : Addr} (hp : p.block ≠ b) (v : Value) : VBox (w.setCell p v) b k x t :=
  ⟨(World.cell?_setCell_far w p _ v hp).trans h.1, (World.cell?_setCell_far w p _ v hp).trans h.2.1, (World.cell?_setCell_far w p _ v hp).trans h.2.2⟩
theorem VBox.text {w : World} {b : Nat} {k x : Int} {t : ByteArray} (h : VBox w b k x t) (t' : ByteArray) : VBox (w.setCell ⟨b, 2, none⟩ (.string t')) b k x t' :=
  ⟨(World.cell?_setCell_other w _ _ _ (by simp)).trans h.1, (World.cell?_setCell_other w _ _ _ (by simp)).trans h.2.1, World.cell?_setCell_same w _ _ h.2.2⟩

theorem rZero_none (s : ByteArray) (k l : Int) (h : mayB k l = false) (w : World) :
    Calls Try.prog 30 #[.agg #[.string s, .int .i64 k, .int .i64 l]] w fun e w' => e = .returned (.agg #[.int .i64 0, .int .u64 0, .string ⟨#[]⟩]) ∧ Below w.heap.size w w' := by
  have HB := Below.refl w.heap.size w
  have H := Lib.hid h
  clear h
  go_enter Try.func30, Try.ntmps30
  go_wp2_with (first | (go_at_call 39; refine (rMay_is _ _ _ _ H.out _).mono ?_; rintro e w1 ⟨rfl, hb⟩; obtain ⟨hc, hf⟩ := bcell hb; obtain ⟨z0, z1⟩ : w.heap.size < w1.heap.size ∧ w.heap.size + 1 < w1.heap.size := (by have hz_ := hb.size; (try simp at hz_); omega); have n_ : Below w.heap.size w _ := below_seq (by repeat (first | exact HB | refine Below.setCell ?_ (by dsimp only; omega) _ | refine Below.alloc ?_ (by have hs_ := HB.size; first | (simp; done) | (simp; omega) | omega) _ | apply Below.drew)) hb; clear HB; have HB := n_; clear n_))
  refine bodyPost_ret (v := .agg #[.int .i64 0, .int .u64 0, .string ⟨#[]⟩]) (by simp [results, Try.results30, go_sem, *]) rfl ⟨rfl, ?_⟩
  (repeat (first | exact HB | refine Below.setCell ?_ (by dsimp only; omega) _ | refine Below.alloc ?_ (by have hs_ := HB.size; first | (simp; done) | (simp; omega) | omega) _ | apply Below.drew))

theorem rZero_some (s : ByteArray) (k : Int) (n : Nat) (h : mayB k n = true) (hn : n ≤ 64) (w : World) :
    Calls Try.prog 30 #[.agg #[.string s, .int .i64 k, .int .i64 n]] w fun e w' => e = .returned (.agg #[.int .i64 k, .int .u64 0, .string (strL (List.replicate n 0))]) ∧ Below w.heap.size w w' := by
  have HB := Below.refl w.heap.size w
  have H := Lib.hid h
  clear h
  go_enter Try.func30, Try.ntmps30
  go_wp2_with (first | (go_at_call 39; refine (rMay_is _ _ _ _ H.out _).mono ?_; rintro e w1 ⟨rfl, hb⟩; obtain ⟨hc, hf⟩ := bcell hb; obtain ⟨z0, z1⟩ : w.heap.size < w1.heap.size ∧ w.heap.size + 1 < w1.heap.size := (by have hz_ := hb.size; (try simp at hz_); omega); have n_ : Below w.heap.size w _ := below_seq (by repeat (first | exact HB | refine Below.setCell ?_ (by dsimp only; omega) _ | refine Below.alloc ?_ (by have hs_ := HB.size; first | (simp; done) | (simp; omega) | omega) _ | apply Below.drew)) hb; clear HB; have HB := n_; clear n_))
  obtain ⟨q, hq⟩ : ∃ q, w1.heap.size = q := ⟨_, rfl⟩
  obtain ⟨W, hW⟩ : ∃ W : World, w1.alloc (.cells #[.int .i64 k, .int .u64 0, .string ⟨#[]⟩] 37) = W := ⟨_, rfl⟩
  have g1 : FBox W w.heap.size s k n := by
    rw [← hW]; refine FBox.alloc ?_ _
    exact ⟨by rw [hc _ _ (by simp; omega)]; simp [go_sem], by rw [hc _ _ (by simp; omega)]; simp [go_sem], by rw [hc _ _ (by simp; omega)]; simp [go_sem]⟩
  have g2 : VBox W (w.heap.size + 1) 0 0 ⟨#[]⟩ := by
    rw [← hW]; refine VBox.alloc ?_ _
    exact ⟨by rw [hc _ _ (by simp)]; simp [go_sem], by rw [hc _ _ (by simp)]; simp [go_sem], by rw [hc _ _ (by simp)]; simp [go_sem]⟩
  have g3 : VBox W q k 0 (strL (List.replicate 0 0)) := by rw [← hW, ← hq]; exact VBox.new _ _ _ _
  have f2 : ∀ o, W.frozen? ⟨w.heap.size + 1, o, none⟩ = false := by
    intro o
    rw [← hW, World.frozen?_alloc_past _ _ _ z1, hf _ _ (by simp)]
    simp [go_sem]
  have f3 : ∀ o, W.frozen? ⟨q, o, none⟩ = false := by intro o; rw [← hW, ← hq]; simp [go_sem]
  have hB : Below w.heap.size w W := hW ▸ HB.alloc (by omega) _
  have hs1 : q < W.heap.size := by rw [← hW]; simp; omega
  have hq1 : w.heap.size + 1 < q := by omega
  rw [hW, hq]
  clear hW hc hf hb HB
  go_loopw [4] (fun i wr => ∃ j : Nat, j ≤ n ∧ i = .int .i64 j ∧ FBox wr w.heap.size s k n ∧ VBox wr (w.heap.size + 1) 0 0 ⟨#[]⟩ ∧ VBox wr q k 0 (strL (List.replicate j 0)) ∧ (∀ o, wr.frozen? ⟨w.heap.size + 1, o, none⟩ = false) ∧ (∀ o, wr.frozen? ⟨q, o, none⟩ = false) ∧ Below w.heap.size w wr ∧ q < wr.heap.size) (fun i _ => n - (intOf i).toNat)
  case atStart => exact ⟨0, by omega, rfl, g1, g2, g3, f2, f3, hB, hs1⟩
  case round =>
    clear g1 g2 g3 f2 f3 hB hs1
    obtain ⟨j, hj, rfl, ⟨c0, c1, c2⟩, ⟨r0, r1, r2⟩, ⟨d0, d1, d2⟩, f2, f3, HB, hs1⟩ := hrel
    by_cases hlt : j < n
    · have hz : ¬ 9223372036854775807 < (strL (List.replicate j 0)).size + 1 := by rw [strL_size, List.length_replicate]; omega
      have hap : strL (List.replicate j 0) ++ ⟨#[0]⟩ = strL (List.replicate (j + 1) 0) := by
        rw [List.replicate_succ', ← strL_append]; rfl
      have HA := Lib.hid hap
      clear hap
      go_wp2
      go_roundw
      case rel =>
        have n1 : q ≠ w.heap.size := by omega
        have n2 : q ≠ w.heap.size + 1 := by omega
        rw [HA.out]
        refine ⟨j + 1, by omega, by go_num, FBox.far ⟨c0, c1, c2⟩ n1 _, VBox.far ⟨r0, r1, r2⟩ n2 _, VBox.text ⟨d0, d1, d2⟩ _, ?_, ?_, HB.setCell (by dsimp only; omega) _, by simpa using hs1⟩
        · intro o; rw [World.frozen?_setCell]; exact f2 o
        · intro o; rw [World.frozen?_setCell]; exact f3 o
      case measure => simp [intOf]; omega
    · obtain rfl : j = n := by omega
      go_wp2
      refine bodyPost_ret (v := .agg #[.int .i64 k, .int .u64 0, .string (strL (List.replicate j 0))]) (by simp [results, Try.results30, go_sem, *]) rfl ⟨rfl, ?_⟩
      (repeat (first | exact HB | refine Below.setCell ?_ (by dsimp only; omega) _ | refine Below.alloc ?_ (by have hs_ := HB.size; first | (simp; done) | (simp; omega) | omega) _ | apply Below.drew))

theorem rZero_calls (s : ByteArray) (k l : Int) (w : World) :
    Calls Try.prog 30 #[.agg #[.string s, .int .i64 k, .int .i64 l]] w fun e w' => e = .returned (zeroV k l) ∧ Below w.heap.size w w' := by
  by_cases h : mayB k l = true
  · rw [zeroV, if_pos h]
    by_cases hk : k = 12
    · subst hk
      have := btw_iff.1 (mayB_12 ▸ h)
      obtain ⟨n, rfl⟩ : ∃ n : Nat, l = n := ⟨l.toNat, by omega⟩
      rw [zeroL, if_pos rfl]
      exact rZero_some s 12 n h (by omega) w
    · rw [zeroL, if_neg hk]
      obtain rfl := (mayB_of h hk).1
      exact rZero_some s k 0 h (by omega) w
  · rw [zeroV, if_neg h]
    exact rZero_none s k l (by simpa using h) w

/-- a number's bytes, if it has so few -/
def putL (n : Int) (width : Nat) : List UInt8 := if fitsB n width false = true then leL n width else []
theorem tz_top {n : Nat} (h : widthB n = true) : tz n = topZ n - 1 := by
  have := width_cases h
  rcases (by omega : n = 1 ∨ n = 2 ∨ n = 4 ∨ n = 8) with rfl | rfl | rfl | rfl <;> rfl
theorem rPut_calls (n : Int) (width : Nat) (hw : width ≤ 8) (h0 : 0 ≤ n) (h1 : n < 18446744073709551616) (w : World) : Calls Try.prog 49 #[.int .i64 width, .int .u64 n] w fun e w' => e = .returned (.string (strL (putL n width))) ∧ Below w.heap.size w w' := by
  by_cases h : fitsB n width false = true
  · rw [putL, if_pos h]
    simp only [fitsB, Bool.and_eq_true] at h
    exact rPut_some n width hw h.1 h0 h1 (by rw [tz_top h.1]; have := h.2; simp at this; omega) w
  · rw [putL, if_neg h]
    refine rPut_none n width hw h0 h1 (fun hb => ?_) w
    rw [tz_top hb]
    simp [fitsB, hb] at h; omega
theorem rPut_is (n : Int) (h0 : 0 ≤ n) (h1 : n < 18446744073709551616) (w : World) : Calls Try.prog 49 #[.int .i64 8, .int .u64 n] w fun e w' => e = .returned (.string (strL (leL n 8))) ∧ Below w.heap.size w w' := by
  have := rPut_calls n 8 (by omega) h0 h1 w
  rwa [putL, if_pos (by simp [fitsB, widthB, topZ]; omega)] at this
theorem rRight_is5 (vk bits : Int) (tx s : ByteArray) (k l : Int) (h0 : 0 ≤ bits) (h1 : bits < 18446744073709551616) (r : Bool) (h : rightB vk bits tx k l = r) (w : World) :
    Calls Try.prog 60 #[.agg #[.int .i64 vk, .int .u64 bits, .string tx], .agg #[.string s, .int .i64 k, .int .i64 l]] w fun e w' => e = .returned (.bool r) ∧ Below w.heap.size w w' := h ▸ rRight_calls5 vk bits tx s k l h0 h1 w

/-- the string of a value, and the error -/
def encS (vk bits : Int) (tx : ByteArray) (k l : Int) : ByteArray := if rightB vk bits tx k l = true then strL (encL bits tx k l) else ⟨#[]⟩
def encE (vk bits : Int) (tx : ByteArray) (k l : Int) : Int := if rightB vk bits tx k l = true then 0 else 50

theorem leL_take (n : Int) {j k : Nat} (h : j ≤ k) : (leL n k).take j = leL n j := by
  apply List.ext_getElem?
  intro i
  simp only [leL, List.getElem?_take, List.getElem?_map]
  by_cases hi : i < j
  · simp [hi, show i < k by omega]
  · simp [hi, List.getElem?_eq_none (show (List.range j).length ≤ i by simp; omega)]
theorem strL_extract (l : List UInt8) (n : Nat) : (strL l).extract 0 n = strL (l.take n) := by
  apply ByteArray.ext; simp [strL]

theorem rEncode_calls (vk bits : Int) (tx s : ByteArray) (k l : Int) (h0 : 0 ≤ bits) (h1 : bits < 18446744073709551616) (w : World) :
    Calls Try.prog 47 #[.agg #[.int .i64 vk, .int .u64 bits, .string tx], .agg #[.string s, .int .i64 k, .int .i64 l]] w fun e w' => e = .returned (.tuple #[.string (encS vk bits tx k l), .int .i64 (encE vk bits tx k l)]) ∧ Below w.heap.size w w' := by
  have HB := Below.refl w.heap.size w
  by_cases hr : rightB vk bits tx k l = true
  · rw [encS, encE, if_pos hr, if_pos hr]
    have hm := (right_may hr).1
    have H := Lib.hid hr
    clear hr
    by_cases hk : k = 12
    · subst hk
      rw [encL, if_pos rfl, strL_bl]
      clear hm
      go_enter Try.func47, Try.ntmps47
      go_wp2_with (first | (go_at_call 60; refine (rRight_is5 _ _ _ _ _ _ h0 h1 _ H.out _).mono ?_; rintro e w1 ⟨rfl, hb⟩; obtain ⟨hc, hf⟩ := bcell hb; obtain ⟨z0, z1⟩ : w.heap.size < w1.heap.size ∧ w.heap.size + 1 < w1.heap.size := (by have hz_ := hb.size; (try simp at hz_); omega); have n_ : Below w.heap.size w _ := below_seq (by repeat (first | exact HB | refine Below.setCell ?_ (by dsimp only; omega) _ | refine Below.alloc ?_ (by have hs_ := HB.size; first | (simp; done) | (simp; omega) | omega) _ | apply Below.drew)) hb; clear HB; have HB := n_; clear n_))
      go_ret2
      exact ⟨rfl, HB⟩
    · have hlc := long_cases hm hk
      have hk' : (k == 12) = false := by simpa using hk
      obtain ⟨n, hn⟩ : ∃ n : Nat, longZ k l = n := ⟨(longZ k l).toNat, by omega⟩
      have hn8 : n ≤ 8 := by omega
      rw [encL, if_neg hk, hn]
      have HN := Lib.hid hn
      clear hn hlc hm
      go_enter Try.func47, Try.ntmps47
      go_wp2_with (first | (go_at_call 60; refine (rRight_is5 _ _ _ _ _ _ h0 h1 _ H.out _).mono ?_; rintro e w1 ⟨rfl, hb⟩; obtain ⟨hc, hf⟩ := bcell hb; obtain ⟨z0, z1⟩ : w.heap.size < w1.heap.size ∧ w.heap.size + 1 < w1.heap.size := (by have hz_ := hb.size; (try simp at hz_); omega); have n_ : Below w.heap.size w _ := below_seq (by repeat (first | exact HB | refine Below.setCell ?_ (by dsimp only; omega) _ | refine Below.alloc ?_ (by have hs_ := HB.size; first | (simp; done) | (simp; omega) | omega) _ | apply Below.drew)) hb; clear HB; have HB := n_; clear n_))
      have g1 : FBox w1 (w.heap.size + 1) s k l := ⟨by rw [hc _ _ (by simp)]; simp [go_sem], by rw [hc _ _ (by simp)]; simp [go_sem], by rw [hc _ _ (by simp)]; simp [go_sem]⟩
      have g2 : VBox w1 w.heap.size vk bits tx := ⟨by rw [hc _ _ (by simp; omega)]; simp [go_sem], by rw [hc _ _ (by simp; omega)]; simp [go_sem], by rw [hc _ _ (by simp; omega)]; simp [go_sem]⟩
      have hsz : (strL (leL bits 8)).size = 8 := by rw [strL_size, leL_length]
      have hn8' : (n : Int) ≤ 8 := by omega
      refine RW.start (fun w' => Below w.heap.size w w' ∧ FBox w' (w.heap.size + 1) s k l ∧ VBox w' w.heap.size vk bits tx) (by kernel_rfl) (by kernel_rfl) ⟨HB.drew, g1, g2⟩ ?_
      clear g1 g2 hc hf hb HB z0 z1
      repeat (first
        | (refine' RW.val (by rfl) ?_ ?_; rotate_left; (focus (intro w' hS; obtain ⟨HB, ⟨c0, c1, c2⟩, ⟨d0, d1, d2⟩⟩ := hS; go_simp; rfl)); simp only [Act.put, List.setIfInBounds_toArray, List.set_cons_zero, List.set_cons_succ])
        | (refine RW.off (by rfl) ?_; simp only [Act.put, List.setIfInBounds_toArray, List.set_cons_zero, List.set_cons_succ])
        | (refine' RW.call (by rfl) ?_ ?_ ?_
           rotate_left 3
           (focus (intro w' hS; obtain ⟨HB, ⟨c0, c1, c2⟩, ⟨d0, d1, d2⟩⟩ := hS; go_simp; exact ⟨rfl, rfl⟩))
           (focus
             intro w' hS
             obtain ⟨HB, ⟨c0, c1, c2⟩, ⟨d0, d1, d2⟩⟩ := hS
             first
               | (refine (rLong_is _ _ _ _ HN.out _).mono ?_; rintro e w1 ⟨rfl, hb⟩; exact ⟨rfl, ⟨(below_seq HB hb), ⟨(cell_below (B := 0) hb c0), (cell_below (B := 0) hb c1), (cell_below (B := 0) hb c2)⟩, ⟨(cell_below (B := 0) hb d0), (cell_below (B := 0) hb d1), (cell_below (B := 0) hb d2)⟩⟩⟩)
               | (refine (rPut_is _ h0 h1 _).mono ?_; rintro e w1 ⟨rfl, hb⟩; exact ⟨rfl, ⟨(below_seq HB hb), ⟨(cell_below (B := 0) hb c0), (cell_below (B := 0) hb c1), (cell_below (B := 0) hb c2)⟩, ⟨(cell_below (B := 0) hb d0), (cell_below (B := 0) hb d1), (cell_below (B := 0) hb d2)⟩⟩⟩))
           simp only [Act.put, List.setIfInBounds_toArray, List.set_cons_zero, List.set_cons_succ]))
      refine RW.done (fun w' hS => ?_)
      obtain ⟨HB, ⟨c0, c1, c2⟩, ⟨d0, d1, d2⟩⟩ := hS
      go_wp2
      go_ret2
      exact ⟨by simp [strL_extract, leL_take _ hn8], HB⟩
  · have hr' : rightB vk bits tx k l = false := by simpa using hr
    rw [encS, encE, if_neg hr, if_neg hr]
    have H := Lib.hid hr'
    clear hr hr'
    go_enter Try.func47, Try.ntmps47
    go_wp2_with (first | (go_at_call 60; refine (rRight_is5 _ _ _ _ _ _ h0 h1 _ H.out _).mono ?_; rintro e w1 ⟨rfl, hb⟩; obtain ⟨hc, hf⟩ := bcell hb; obtain ⟨z0, z1⟩ : w.heap.size < w1.heap.size ∧ w.heap.size + 1 < w1.heap.size := (by have hz_ := hb.size; (try simp at hz_); omega); have n_ : Below w.heap.size w _ := below_seq (by repeat (first | exact HB | refine Below.setCell ?_ (by dsimp only; omega) _ | refine Below.alloc ?_ (by have hs_ := HB.size; first | (simp; done) | (simp; omega) | omega) _ | apply Below.drew)) hb; clear HB; have HB := n_; clear n_))
    go_ret2
    exact ⟨rfl, HB⟩
end Go.Proofs.Ytepfabijmhhhcaa
