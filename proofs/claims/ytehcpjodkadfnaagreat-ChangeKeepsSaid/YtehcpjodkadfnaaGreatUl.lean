/- Merged out of: Gp Gq Gr Gs Gt. -/
import Derived.Test.YtehcpjodkadfnaaGreatUk
/- Layer 6 of the heap, fields, sixteenth part: the reference's places. -/
set_option linter.unusedSimpArgs false
set_option linter.unusedVariables false
set_option maxRecDepth 100000
namespace Go.Proofs.YtehcpjodkadfnaaGreat
open Go.RowKit

theorem upN_mod (a n : Nat) (hn : 0 < n) : upN a n % n = 0 := by unfold upN; exact Nat.mul_mod_left _ _
theorem upN_min {a n x : Nat} (hn : 0 < n) (h1 : a ≤ x) (h2 : x % n = 0) : upN a n ≤ x := by
  unfold upN
  have e : x = x / n * n := by have := Nat.div_add_mod x n; rw [h2, Nat.mul_comm] at this; omega
  have : (a + n - 1) / n < x / n + 1 := by
    rw [Nat.div_lt_iff_lt_mul hn, Nat.add_mul]; omega
  calc (a + n - 1) / n * n ≤ x / n * n := Nat.mul_le_mul_right n (by omega)
    _ = x := e.symm
theorem rFRight_is (A : Option Addr) (c : Nat) (fs : List Fd) (r : Bool) (h : rightF fs = r) (w : World) (hA : Rd w A (cellsF fs)) (hl : fs.length ≤ 9223372036854775807) (hs : ∀ f ∈ fs, f.s.size ≤ 9223372036854775807) :
    Calls Tryz.prog 5 #[.slice A fs.length c] w fun e w' => e = .returned (.bool r) ∧ Below w.heap.size w w' := h ▸ rFRight_calls A c fs w hA hl hs
theorem rLayout_no (A : Option Addr) (c : Nat) (fs : List Fd) (hr : rightF fs = false) (w : World) (hA : Rd w A (cellsF fs)) (hl : fs.length ≤ 9223372036854775807) (hs : ∀ f ∈ fs, f.s.size ≤ 9223372036854775807) :
    Calls Tryz.prog 29 #[.slice A fs.length c] w fun e w' => e = .returned (.tuple #[.slice none 0 0, .int .i64 0]) ∧ Below w.heap.size w w' := by
  have HR := Lib.hid hr
  clear hr
  go_enter Tryz.func29, Tryz.ntmps29
  go_wp2_with (go_at_call 5; refine (rFRight_is _ _ _ _ HR.out _ hA hl hs).mono ?_; rintro e w1 ⟨rfl, hb1⟩)
  go_ret2
  exact ⟨rfl, hb1⟩
set_option maxHeartbeats 8000000 in
theorem rLayout_yes (A : Option Addr) (c : Nat) (fs : List Fd) (hr : rightF fs = true) (w : World) (hA : Rd w A (cellsF fs)) (hl : fs.length ≤ 9223372036854775807) (hs : ∀ f ∈ fs, f.s.size ≤ 9223372036854775807) :
    Calls Tryz.prog 29 #[.slice A fs.length c] w fun e w' => ∃ v, e = .returned (.tuple #[v, .int .i64 (upN (endF 0 fs) 8 : Nat)]) ∧ w'.ownsRow w.heap.size 3 1 v fs.length (intsV ((seqF 0 fs).map Prod.fst)) ∧ Below w.heap.size w w' := by
  obtain ⟨i0, hi, hz0, hz1, hz2⟩ := info_parts infoInt
  obtain ⟨hmay, h16⟩ := rightF_may hr
  have hend := endF_le (nx := 0) hmay
  have HR := Lib.hid hr
  clear hr
  go_enter Tryz.func29, Tryz.ntmps29
  go_wp2_with (go_at_call 5; refine (rFRight_is _ _ _ _ HR.out _ hA hl hs).mono ?_; rintro e w1 ⟨rfl, hb1⟩)
  go_loopw [4, 5, 6] (fun v a i wr => ∃ k : Nat, k ≤ fs.length ∧ i = .int .i64 k ∧ a = .int .i64 (endF 0 (fs.take k) : Nat) ∧ wr.ownsRow w.heap.size 3 1 v k (intsV ((seqF 0 (fs.take k)).map Prod.fst)) ∧ Below w.heap.size w wr) (fun _ _ i _ => fs.length - (intOf i).toNat)
  case atStart => exact ⟨0, by omega, rfl, rfl, own_nil _ _ _ _, hb1⟩
  case round =>
    obtain ⟨k, hk, rfl, rfl, hown, HB⟩ := hrel
    clear hb1
    have hAr := hA.below HB
    by_cases hlt : k < fs.length
    · obtain ⟨f, hf⟩ : ∃ f, fs[k]? = some f := ⟨_, List.getElem?_eq_getElem hlt⟩
      have hm := hmay f (List.mem_of_getElem? hf)
      have hle := endF_le (nx := 0) (hmay.take k)
      rw [List.length_take, Nat.min_eq_left hk] at hle
      obtain ⟨e1, e2⟩ := seqF_take hf
      have ha := atF_le (nx := endF 0 (fs.take k)) hm
      have hn1 := Fd.n_le f
      have hn0 := Fd.n_pos hm
      have HL := Lib.hid f.n_eq.symm
      have HF := Lib.hid hf
      obtain ⟨nx, hnx⟩ : ∃ nx, endF 0 (fs.take k) = nx := ⟨_, rfl⟩
      rw [hnx] at e1 e2 ha hle ⊢
      obtain ⟨at_, hat⟩ : ∃ a, atF nx f = a := ⟨_, rfl⟩
      rw [hat] at e1 e2 ha
      have E1 := Lib.hid e1
      have E2 := Lib.hid e2
      have HAT := Lib.hid hat
      have hA0 := hA
      clear e1 e2 hnx hf hat hA
      go_wp2
      obtain ⟨wo, rfl⟩ : ∃ wo : World, wo = wr := ⟨_, rfl⟩
      go_loopw [5] (fun a wr => ∃ x : Nat, nx ≤ x ∧ x ≤ at_ ∧ a = .int .i64 x ∧ wr.ownsRow w.heap.size 3 1 u4 k (intsV ((seqF 0 (fs.take k)).map Prod.fst)) ∧ Below w.heap.size w wr ∧ Rd wr A (cellsF fs)) (fun a _ => at_ - (intOf a).toNat)
      case atStart => exact ⟨nx, by omega, by omega, rfl, hown, HB, hAr⟩
      case round =>
        obtain ⟨x, hx1, hx2, rfl, hown, HB, hAr⟩ := hrel
        obtain ⟨ad, hadd, c0, c1, c2⟩ := hAr.fld HF.out
        subst hadd
        by_cases hk12 : f.k = 12
        · obtain rfl : x = at_ := by have := HAT.out; rw [atF, if_pos hk12] at this; omega
          have hk12' : (f.k != 12) = false := by rw [hk12]; rfl
          have tok1 := True.intro
          clear hk12
          go_wp2_with (first
            | (have _t := tok9; go_at_call 20; refine (rLong_is _ _ _ _ HL.out _).mono ?_; rintro e w2 ⟨rfl, hb2⟩; have HB := HB.trans (hb2.mono HB.size); have hown := own_below hown hb2; have c0 := cell_below (B := 0) hb2 c0; have c1 := cell_below (B := 0) hb2 c1; have c2 := cell_below (B := 0) hb2 c2; have hAr := hAr.below hb2; clear tok9 hb2; have tokB := True.intro; obtain ⟨wz, hwz⟩ : ∃ z : World, z = w2 := ⟨_, rfl⟩; subst hwz)
            | (at_builtin; refine wpList_append_own _ rfl _ _ 50 rfl w.heap.size 3 i0 (.int .i64 0) 1 8 Tryz.underlying50 hi hz0 hz1 hz2 rfl (by decide) _ _ _ rfl (hown.alloc _) ⟨_, 0, none⟩ 1 1 [.int .i64 (x : Int)] rfl rfl (news1 _ _ _) ?c2 ?c3 ?c4 ?c5 ?_))
          case c2 => intro u hu; simp at hu; subst hu; rfl
          case c3 => simp only [maxLen]; omega
          case c4 => omega
          case c5 => have := HB.size; simp; omega
          intro v' w3 hown' hgrow _
          have hs2 := HB.size
          have HB3 := Below.grown (HB.alloc hs2 (.cells #[.int .i64 (x : Int)] 3)) hgrow (by simp; omega) (fun q hq => own_base hown q hq)
          have hA3 := hA0.below HB3
          obtain ⟨ad', hadd', d0, d1, d2⟩ := hA3.fld HF.out
          cases hadd'
          have hown3 : w3.ownsRow w.heap.size 3 1 v' (k + 1) (intsV ((seqF 0 (fs.take (k + 1))).map Prod.fst)) := own_eq hown' rfl (by rw [E1.out]; simp [intsV])
          clear hown' hgrow hown c0 c1 c2 hAr hA3
          go_wp2_with (go_at_call 20; refine (rLong_is _ _ _ _ HL.out _).mono ?_; rintro e w4 ⟨rfl, hb4⟩; have HB4 := HB3.trans (hb4.mono HB3.size); have hown4 := own_below hown3 hb4; clear hb4)
          go_roundw
          case rel => exact ⟨k + 1, by omega, by go_num, by rw [E2.out]; go_num, hown4, HB4⟩
          case measure => simp [intOf]; omega
        · have hk12' : (f.k != 12) = true := by simpa using hk12
          have hup : upN nx f.n = at_ := by have := HAT.out; rwa [atF, if_neg hk12] at this
          have hnz : ((f.n : Int) == 0) = false := by simp; omega
          clear hk12
          by_cases hx : x % f.n = 0
          · obtain rfl : x = at_ := by have := upN_min hn0 hx1 hx; omega
            have hxz : ((x : Int) % (f.n : Int) != 0) = false := by
              have : ((x % f.n : Nat) : Int) = 0 := by rw [hx]; rfl
              rw [Int.natCast_emod] at this
              rw [this]; rfl
            have tok0 := True.intro
            clear hup hx
            go_wp2_with (first
              | (have _t := tok0; go_at_call 20; refine (rLong_is _ _ _ _ HL.out _).mono ?_; rintro e w2 ⟨rfl, hb2⟩; have HB := HB.trans (hb2.mono HB.size); have hown := own_below hown hb2; have c0 := cell_below (B := 0) hb2 c0; have c1 := cell_below (B := 0) hb2 c1; have c2 := cell_below (B := 0) hb2 c2; have hAr := hAr.below hb2; clear tok0 hb2; have tokB := True.intro; obtain ⟨wz, hwz⟩ : ∃ z : World, z = w2 := ⟨_, rfl⟩; subst hwz)
              | (at_builtin; refine wpList_append_own _ rfl _ _ 50 rfl w.heap.size 3 i0 (.int .i64 0) 1 8 Tryz.underlying50 hi hz0 hz1 hz2 rfl (by decide) _ _ _ rfl (hown.alloc _) ⟨_, 0, none⟩ 1 1 [.int .i64 (x : Int)] rfl rfl (news1 _ _ _) ?c2 ?c3 ?c4 ?c5 ?_))
            case c2 => intro u hu; simp at hu; subst hu; rfl
            case c3 => simp only [maxLen]; omega
            case c4 => omega
            case c5 => have := HB.size; simp; omega
            intro v' w3 hown' hgrow _
            have hs2 := HB.size
            have HB3 := Below.grown (HB.alloc hs2 (.cells #[.int .i64 (x : Int)] 3)) hgrow (by simp; omega) (fun q hq => own_base hown q hq)
            have hA3 := hA0.below HB3
            obtain ⟨ad', hadd', d0, d1, d2⟩ := hA3.fld HF.out
            cases hadd'
            have hown3 : w3.ownsRow w.heap.size 3 1 v' (k + 1) (intsV ((seqF 0 (fs.take (k + 1))).map Prod.fst)) := own_eq hown' rfl (by rw [E1.out]; simp [intsV])
            clear hown' hgrow hown c0 c1 c2 hAr hA3
            go_wp2_with (go_at_call 20; refine (rLong_is _ _ _ _ HL.out _).mono ?_; rintro e w4 ⟨rfl, hb4⟩; have HB4 := HB3.trans (hb4.mono HB3.size); have hown4 := own_below hown3 hb4; clear hb4)
            go_roundw
            case rel => exact ⟨k + 1, by omega, by go_num, by rw [E2.out]; go_num, hown4, HB4⟩
            case measure => simp [intOf]; omega
          · have hxz : ((x : Int) % (f.n : Int) != 0) = true := by
              rw [← Int.natCast_emod]; simp; omega
            have hlt2 : x < at_ := by
              rcases (by omega : x < at_ ∨ x = at_) with h | h
              · exact h
              · exfalso; apply hx; rw [h, ← hup]; exact upN_mod _ _ hn0
            clear hup hx
            go_wp2_with (go_at_call 20; refine (rLong_is _ _ _ _ HL.out _).mono ?_; rintro e w2 ⟨rfl, hb2⟩; have HB := HB.trans (hb2.mono HB.size); have hown := own_below hown hb2; have hAr := hAr.below hb2; clear hb2)
            go_roundw
            case rel => exact ⟨x + 1, by omega, by omega, by go_num, hown, HB, hAr⟩
            case measure => simp [intOf]; omega
    · obtain rfl : k = fs.length := by omega
      rw [List.take_length] at hown ⊢
      obtain ⟨nx, hnx⟩ : ∃ nx, endF 0 fs = nx := ⟨_, rfl⟩
      obtain ⟨up, hup⟩ : ∃ u, upN nx 8 = u := ⟨_, rfl⟩
      rw [hnx] at hend ⊢
      have HE := Lib.hid hnx
      have hu := upN_le nx 8 (by omega)
      rw [hup] at hu
      have HU := Lib.hid hup
      clear hnx hup hA hAr
      go_wp2
      obtain ⟨wo, rfl⟩ : ∃ wo : World, wo = wr := ⟨_, rfl⟩
      go_loop [5] (fun a => ∃ x : Nat, nx ≤ x ∧ x ≤ up ∧ a = .int .i64 x) (fun a => up - (intOf a).toNat)
      case atStart => exact ⟨nx, by omega, by omega, rfl⟩
      case round =>
        obtain ⟨x, hx1, hx2, rfl⟩ := hrel
        by_cases hx : x % 8 = 0
        · obtain rfl : x = up := by have := upN_min (by omega) hx1 hx; have := HU.out; omega
          have hxz : ((x : Int) % 8 != 0) = false := by simp; omega
          clear hx
          go_wp2
          go_ret2
          exact ⟨u4, by rw [HE.out, HU.out]; rfl, hown, HB⟩
        · have hxz : ((x : Int) % 8 != 0) = true := by simp; omega
          have hlt2 : x < up := by
            rcases (by omega : x < up ∨ x = up) with h | h
            · exact h
            · exfalso; apply hx; rw [h, ← HU.out]; exact upN_mod _ _ (by omega)
          clear hx
          go_wp2
          go_round
          case rel => exact ⟨x + 1, by omega, by omega, by go_num⟩
          case measure => simp [intOf]; omega
theorem rLayout_is (A : Option Addr) (c : Nat) (fs : List Fd) (z : Nat) (hz : sizeF fs = z) (w : World) (hA : Rd w A (cellsF fs)) (hl : fs.length ≤ 9223372036854775807) (hs : ∀ f ∈ fs, f.s.size ≤ 9223372036854775807) :
    Calls Tryz.prog 29 #[.slice A fs.length c] w fun e w' => ∃ B m c', e = .returned (.tuple #[.slice B m c', .int .i64 (z : Nat)]) ∧ m = (layL fs).length ∧ Rd w' B (intsV (layL fs)) ∧ Below w.heap.size w w' := by
  subst hz
  cases hr : rightF fs
  · refine (rLayout_no A c fs hr w hA hl hs).mono ?_
    rintro e w' ⟨rfl, hb⟩
    have e1 : layL fs = [] := by simp [layL, hr]
    have e2 : sizeF fs = 0 := by simp [sizeF, hr]
    rw [e1, e2]
    exact ⟨none, 0, 0, rfl, rfl, Rd.nil _ _, hb⟩
  · refine (rLayout_yes A c fs hr w hA hl hs).mono ?_
    rintro e w' ⟨v, rfl, ho, hb⟩
    have e1 : layL fs = (seqF 0 fs).map Prod.fst := by simp [layL, hr]
    have e2 : sizeF fs = upN (endF 0 fs) 8 := by simp [sizeF, hr]
    obtain ⟨B, c', rfl, _, _, h2⟩ := own_rd ho
    rw [e1, e2]
    exact ⟨B, _, c', rfl, by rw [List.length_map, seqF_length], h2, hb⟩
end Go.Proofs.YtehcpjodkadfnaaGreat
/- Layer 6 of the heap, fields, seventeenth part: the reference's fields, got. -/
set_option linter.unusedSimpArgs false
set_option linter.unusedVariables false
set_option maxRecDepth 100000
namespace Go.Proofs.YtehcpjodkadfnaaGreat
open Go.RowKit

theorem bl_extract (s : ByteArray) (i j : Nat) : bl (s.extract i j) = ((bl s).drop i).take (j - i) := by
  simp [bl, ByteArray.data_extract]
end Go.Proofs.YtehcpjodkadfnaaGreat
/- Layer 6 of the heap, fields, eighteenth part: the reference gets a field. -/
set_option linter.unusedSimpArgs false
set_option linter.unusedVariables false
set_option maxRecDepth 100000
namespace Go.Proofs.YtehcpjodkadfnaaGreat
open Go.RowKit

theorem own_far {w : World} {base : Nat} {e : TypeId} {size n : Nat} {v : Value} {xs : List Value} (h : w.ownsRow base e size v n xs) : ∃ A c, v = .slice A n c ∧ n ≤ c ∧ c ≤ maxLen ∧ Rd w A xs ∧ ∀ ad, A = some ad → base ≤ ad.block := by
  obtain ⟨A, c, e, h1, h2, h3⟩ := own_rd h
  refine ⟨A, c, e, h1, h2, h3, fun ad ha => ?_⟩
  subst ha
  exact own_base h ad.block (by rw [e]; rfl)
theorem rLayout_at (A : Option Addr) (c : Nat) (fs : List Fd) (z : Nat) (hz : sizeF fs = z) (w : World) (hA : Rd w A (cellsF fs)) (hl : fs.length ≤ 9223372036854775807) (hs : ∀ f ∈ fs, f.s.size ≤ 9223372036854775807) :
    Calls Tryz.prog 29 #[.slice A fs.length c] w fun e w' => ∃ B m c', e = .returned (.tuple #[.slice B m c', .int .i64 (z : Nat)]) ∧ m = (layL fs).length ∧ Rd w' B (intsV (layL fs)) ∧ (∀ ad, B = some ad → w.heap.size ≤ ad.block) ∧ Below w.heap.size w w' := by
  subst hz
  cases hr : rightF fs
  · refine (rLayout_no A c fs hr w hA hl hs).mono ?_
    rintro e w' ⟨rfl, hb⟩
    have e1 : layL fs = [] := by simp [layL, hr]
    have e2 : sizeF fs = 0 := by simp [sizeF, hr]
    rw [e1, e2]
    exact ⟨none, 0, 0, rfl, rfl, Rd.nil _ _, (fun _ h => by cases h), hb⟩
  · refine (rLayout_yes A c fs hr w hA hl hs).mono ?_
    rintro e w' ⟨v, rfl, ho, hb⟩
    have e1 : layL fs = (seqF 0 fs).map Prod.fst := by simp [layL, hr]
    have e2 : sizeF fs = upN (endF 0 fs) 8 := by simp [sizeF, hr]
    obtain ⟨B, c', rfl, _, _, h2, h3⟩ := own_far ho
    rw [e1, e2]
    exact ⟨B, _, c', rfl, by rw [List.length_map, seqF_length], h2, h3, hb⟩
theorem far3 {w : World} {b : Nat} {x y z v : Value} {q : Addr} (h : w.cell? q = some v) (hne : q.block ≠ b) : (((w.setCell ⟨b, 0, none⟩ x).setCell ⟨b, 1, none⟩ y).setCell ⟨b, 2, none⟩ z).cell? q = some v := by
  have e : ∀ (u : World) (o : Nat) (x : Value), (u.setCell ⟨b, o, none⟩ x).cell? q = u.cell? q := fun u o x => by
    simp only [World.cell?]
    rw [Below.heap_setCell u ⟨b, o, none⟩ x q.block (fun e => hne e)]
  rw [e, e, e]; exact h
end Go.Proofs.YtehcpjodkadfnaaGreat
/- Layer 6 of the heap, fields, nineteenth part: the reference sets a field. -/
set_option linter.unusedSimpArgs false
set_option linter.unusedVariables false
set_option maxRecDepth 100000
namespace Go.Proofs.YtehcpjodkadfnaaGreat
open Go.RowKit

set_option maxHeartbeats 4000000 in
theorem rSet_bad (s : ByteArray) (A : Option Addr) (c : Nat) (fs : List Fd) (nm : ByteArray) (v : Vl) (q : Int) (h : locF fs s.size nm = .inl q) (w : World) (hA : Rd w A (cellsF fs)) (hl : fs.length ≤ 9223372036854775807) (hs : ∀ f ∈ fs, f.s.size ≤ 9223372036854775807) :
    Calls Tryz.prog 30 #[.string s, .slice A fs.length c, .string nm, v.v] w fun e w' => e = .returned (.tuple #[.string ⟨#[]⟩, .int .i64 q]) ∧ Below w.heap.size w w' := by
  obtain ⟨z, hz⟩ : ∃ z, sizeF fs = z := ⟨_, rfl⟩
  have HZ := Lib.hid hz
  have hcase : (rightF fs = false ∧ q = 60) ∨ (rightF fs = true ∧ ((s.size : Int) != (z : Int)) = true ∧ q = 60) ∨ (rightF fs = true ∧ ((s.size : Int) != (z : Int)) = false ∧ q = 61 ∧ findZ fs nm < 0) := by
    rcases loc_bad h with ⟨rfl, h1⟩ | ⟨rfl, h1, h2, h3⟩
    · cases hr : rightF fs
      · exact .inl ⟨rfl, rfl⟩
      · rw [hr] at h1
        have h1 := h1.resolve_left (by simp)
        exact .inr (.inl ⟨rfl, by rw [← hz]; simp; omega, rfl⟩)
    · exact .inr (.inr ⟨h1, by rw [← hz, h2]; simp, rfl, h3⟩)
  clear h hz
  unfold Vl.v
  rcases hcase with ⟨hr, rfl⟩ | ⟨hr, hne, rfl⟩ | ⟨hr, hne, rfl, hk⟩
  · have HR := Lib.hid hr
    clear hr
    go_enter Tryz.func30, Tryz.ntmps30
    go_wp2_with (first
      | (go_at_call 29; refine (rLayout_is A c fs z HZ.out _ (hA.below (below_new _)) hl hs).mono ?_; rintro e w1 ⟨B, m, c', rfl, hm, hrd, hb1⟩; have hA1 := (hA.below (below_new _)).below hb1)
      | (go_at_call 5; refine (rFRight_is A c fs _ HR.out _ hA1 hl hs).mono ?_; rintro e w2 ⟨rfl, hb2⟩; have HB := below_seq (below_seq (below_new _) hb1) hb2))
    go_ret2
    exact ⟨rfl, HB⟩
  · have HR := Lib.hid hr
    clear hr
    go_enter Tryz.func30, Tryz.ntmps30
    go_wp2_with (first
      | (go_at_call 29; refine (rLayout_is A c fs z HZ.out _ (hA.below (below_new _)) hl hs).mono ?_; rintro e w1 ⟨B, m, c', rfl, hm, hrd, hb1⟩; have hA1 := (hA.below (below_new _)).below hb1)
      | (go_at_call 5; refine (rFRight_is A c fs _ HR.out _ hA1 hl hs).mono ?_; rintro e w2 ⟨rfl, hb2⟩; have HB := below_seq (below_seq (below_new _) hb1) hb2))
    go_ret2
    exact ⟨rfl, HB⟩
  · have HR := Lib.hid hr
    obtain ⟨k, hkz⟩ : ∃ k, findZ fs nm = k := ⟨_, rfl⟩
    rw [hkz] at hk
    have HK := Lib.hid hkz
    have hd : decide (k < 0) = true := by simpa using hk
    clear hr hkz
    go_enter Tryz.func30, Tryz.ntmps30
    go_wp2_with (first
      | (go_at_call 29; refine (rLayout_is A c fs z HZ.out _ (hA.below (below_new _)) hl hs).mono ?_; rintro e w1 ⟨B, m, c', rfl, hm, hrd, hb1⟩; have hA1 := (hA.below (below_new _)).below hb1)
      | (go_at_call 5; refine (rFRight_is A c fs _ HR.out _ hA1 hl hs).mono ?_; rintro e w2 ⟨rfl, hb2⟩; have hA2 := hA1.below hb2)
      | (go_at_call 16; refine (rFind_is A c fs _ _ HK.out _ hA2 hl).mono ?_; rintro e w3 ⟨rfl, rfl⟩; have HB := below_seq (below_seq (below_new _) hb1) hb2))
    go_ret2
    exact ⟨rfl, HB⟩
theorem strL_over (s x : ByteArray) (i : Nat) (h : i + x.size ≤ s.size) : s.extract 0 i ++ x ++ s.extract (i + x.size) s.size = strL (overB (bl s) i (bl x)) := by
  have e : ∀ a b : ByteArray, bl (a ++ b) = bl a ++ bl b := fun a b => by simp [bl, ByteArray.data_append]
  rw [← strL_bl (s.extract 0 i ++ x ++ s.extract (i + x.size) s.size), e, e, bl_extract, bl_extract, overB, bl_length]
  rw [List.drop_zero, Nat.sub_zero, List.take_of_length_le (l := (bl s).drop (i + x.size)) (by rw [List.length_drop, bl_length]; exact Nat.le_refl _)]
set_option maxHeartbeats 8000000 in
theorem rSet_ok (s : ByteArray) (A : Option Addr) (c : Nat) (fs : List Fd) (nm : ByteArray) (v : Vl) (h0 : 0 ≤ v.b) (h1 : v.b < 18446744073709551616) (at_ : Nat) (f : Fd) (h : locF fs s.size nm = .inr (at_, f)) (w : World) (hA : Rd w A (cellsF fs)) (hl : fs.length ≤ 9223372036854775807) (hs : ∀ f ∈ fs, f.s.size ≤ 9223372036854775807) :
    Calls Tryz.prog 30 #[.string s, .slice A fs.length c, .string nm, v.v] w fun e w' => e = .returned (.tuple #[.string (strL (setB (bl s) fs nm v)), .int .i64 (setE (bl s) fs nm v)]) ∧ Below w.heap.size w w' := by
  obtain ⟨hm, hin, hlen, hn⟩ := loc_in h
  obtain ⟨hr, hz, k, hk, hf, hat⟩ := loc_ok h
  have hn2 := f.n_le
  have hset : ∀ x q, encS v.k v.b v.t f.k f.l = x → encE v.k v.b v.t f.k f.l = q → (q = 50 ∧ setB (bl s) fs nm v = [] ∧ setE (bl s) fs nm v = 50) ∨ (q = 0 ∧ x.size = f.n ∧ strL (setB (bl s) fs nm v) = s.extract 0 at_ ++ x ++ s.extract (at_ + x.size) s.size ∧ setE (bl s) fs nm v = 0) := by
    rintro x q rfl rfl
    cases hrr : rightB v.k v.b v.t f.k f.l
    · exact .inl ⟨by simp [encE, hrr], by simp [setB, bl_length, h, hrr], by simp [setE, bl_length, h, hrr]⟩
    · have e1 := encL_length hrr
      have e2 : encS v.k v.b v.t f.k f.l = strL (encL v.b v.t f.k f.l) := by simp [encS, hrr]
      refine .inr ⟨by simp [encE, hrr], by rw [e2, strL_size, e1], ?_, by simp [setE, bl_length, h, hrr]⟩
      rw [strL_over _ _ _ (by rw [e2, strL_size, e1]; omega), e2, bl_strL]
      simp [setB, bl_length, h, hrr]
  obtain ⟨x, hx⟩ : ∃ x, encS v.k v.b v.t f.k f.l = x := ⟨_, rfl⟩
  obtain ⟨q, hq⟩ : ∃ q, encE v.k v.b v.t f.k f.l = q := ⟨_, rfl⟩
  have hcase := hset x q hx hq
  have HX := Lib.hid hx
  have HQ := Lib.hid hq
  have HR := Lib.hid hr
  have HZ := Lib.hid hz.symm
  have HK := Lib.hid hk
  have HF := Lib.hid hf
  have HT := Lib.hid hat
  have hk1 := (List.getElem?_eq_some_iff.1 hf).1
  have hk2 := (List.getElem?_eq_some_iff.1 hat).1
  clear h hr hz hk hf hat hset hx hq
  unfold Vl.v
  have hi0 : (0 : Int) ≤ (k : Int) := by omega
  have hi1 : (k : Int) < ((layL fs).length : Int) := by omega
  have hi2 : (k : Int) < (fs.length : Int) := by omega
  rcases hcase with ⟨rfl, e1, e2⟩ | ⟨rfl, hxs, e1, e2⟩
  · rw [e1, e2]
    clear e1 e2
    go_enter Tryz.func30, Tryz.ntmps30
    go_wp2_with (first
      | (go_at_call 29; refine (rLayout_is A c fs s.size HZ.out _ (hA.below (below_new _)) hl hs).mono ?_; rintro e w1 ⟨B, m, c', rfl, hm, hrd, hb1⟩; have hA1 := (hA.below (below_new _)).below hb1)
      | (go_at_call 5; refine (rFRight_is A c fs _ HR.out _ hA1 hl hs).mono ?_; rintro e w2 ⟨rfl, hb2⟩; have hA2 := hA1.below hb2)
      | (go_at_call 16; refine (rFind_is A c fs _ _ HK.out _ hA2 hl).mono ?_; rintro e w3 ⟨rfl, rfl⟩; have HB := below_seq (below_seq (below_new _) hb1) hb2; obtain ⟨ad, rfl, g0, g1, g2⟩ := hA2.fld HF.out; obtain ⟨d0, d1, d2⟩ := ((VBox.new w v.k v.b v.t).below hb1).below hb2))
    refine RW.start (fun w' => Below w.heap.size w w' ∧ VBox w' w.heap.size v.k v.b v.t ∧ w'.cell? (ad.add (k * 3)) = some (.string f.s) ∧ w'.cell? ⟨(ad.add (k * 3)).block, (ad.add (k * 3)).off + (0 + 1), none⟩ = some (.int .i64 f.k) ∧ w'.cell? ⟨(ad.add (k * 3)).block, (ad.add (k * 3)).off + (1 + 1), none⟩ = some (.int .i64 f.l)) (by kernel_rfl) (by kernel_rfl) ⟨HB.drew, ⟨d0, d1, d2⟩, g0, g1, g2⟩ ?_
    clear HB d0 d1 d2 g0 g1 g2 hA1 hA2 hA hrd hb1 hb2
    repeat (first
      | (refine' RW.val (by rfl) ?_ ?_; rotate_left; (focus (intro w' hS; obtain ⟨HB, ⟨d0, d1, d2⟩, g0, g1, g2⟩ := hS; go_simp; rfl)); simp only [Act.put, List.setIfInBounds_toArray, List.set_cons_zero, List.set_cons_succ])
      | (refine RW.off (by rfl) ?_; simp only [Act.put, List.setIfInBounds_toArray, List.set_cons_zero, List.set_cons_succ])
      | (refine' RW.call (by rfl) ?_ ?_ ?_
         rotate_left 3
         (focus (intro w' hS; obtain ⟨HB, ⟨d0, d1, d2⟩, g0, g1, g2⟩ := hS; go_simp; exact ⟨rfl, rfl⟩))
         (focus
           intro w' hS
           obtain ⟨HB, ⟨d0, d1, d2⟩, g0, g1, g2⟩ := hS
           first
             | (refine (rEncode_is _ _ _ _ _ _ h0 h1 _ _ HX.out HQ.out _).mono ?_; rintro e w1 ⟨rfl, hb⟩; exact ⟨rfl, ⟨(below_seq HB hb), ⟨(cell_below (B := 0) hb d0), (cell_below (B := 0) hb d1), (cell_below (B := 0) hb d2)⟩, (cell_below (B := 0) hb g0), (cell_below (B := 0) hb g1), (cell_below (B := 0) hb g2)⟩⟩))
         simp only [Act.put, List.setIfInBounds_toArray, List.set_cons_zero, List.set_cons_succ]))
    refine RW.done (fun w' hS => ?_)
    obtain ⟨HB, ⟨d0, d1, d2⟩, g0, g1, g2⟩ := hS
    go_wp2
    go_ret2
    exact ⟨rfl, HB⟩
  · rw [e1, e2]
    clear e1 e2
    have HXS := Lib.hid hxs
    have hs1 : (at_ : Int) ≤ (s.size : Int) := by omega
    have hs2 : (at_ : Int) + (x.size : Int) ≤ (s.size : Int) := by omega
    have hs3 : ((at_ : Int) + (x.size : Int)).toNat = at_ + x.size := by omega
    have hs4 : (0 : Int) ≤ (at_ : Int) + (x.size : Int) := by omega
    have hs5 : IntKind.i64.wrap ((at_ : Int) + (x.size : Int)) = (at_ : Int) + (x.size : Int) := IntWalk.i64_in _ (by omega)
    have z1 : ¬ 9223372036854775807 < min at_ s.size + x.size := by omega
    have z2 : ¬ 9223372036854775807 < min at_ s.size + x.size + (s.size - (at_ + x.size)) := by omega
    clear hxs
    go_enter Tryz.func30, Tryz.ntmps30
    go_wp2_with (first
      | (go_at_call 29; refine (rLayout_is A c fs s.size HZ.out _ (hA.below (below_new _)) hl hs).mono ?_; rintro e w1 ⟨B, m, c', rfl, hm, hrd, hb1⟩; have hA1 := (hA.below (below_new _)).below hb1)
      | (go_at_call 5; refine (rFRight_is A c fs _ HR.out _ hA1 hl hs).mono ?_; rintro e w2 ⟨rfl, hb2⟩; have hA2 := hA1.below hb2)
      | (go_at_call 16; refine (rFind_is A c fs _ _ HK.out _ hA2 hl).mono ?_; rintro e w3 ⟨rfl, rfl⟩; have HB := below_seq (below_seq (below_new _) hb1) hb2; obtain ⟨ad, rfl, g0, g1, g2⟩ := hA2.fld HF.out; obtain ⟨d0, d1, d2⟩ := ((VBox.new w v.k v.b v.t).below hb1).below hb2; obtain ⟨bd, rfl, g3⟩ := (hrd.below hb2).int HT.out))
    refine RW.start (fun w' => Below w.heap.size w w' ∧ VBox w' w.heap.size v.k v.b v.t ∧ w'.cell? (ad.add (k * 3)) = some (.string f.s) ∧ w'.cell? ⟨(ad.add (k * 3)).block, (ad.add (k * 3)).off + (0 + 1), none⟩ = some (.int .i64 f.k) ∧ w'.cell? ⟨(ad.add (k * 3)).block, (ad.add (k * 3)).off + (1 + 1), none⟩ = some (.int .i64 f.l) ∧ w'.cell? (bd.add k) = some (.int .i64 at_)) (by kernel_rfl) (by kernel_rfl) ⟨HB.drew, ⟨d0, d1, d2⟩, g0, g1, g2, g3⟩ ?_
    clear HB d0 d1 d2 g0 g1 g2 g3 hA1 hA2 hA hrd hb1 hb2
    repeat (first
      | (refine' RW.val (by rfl) ?_ ?_; rotate_left; (focus (intro w' hS; obtain ⟨HB, ⟨d0, d1, d2⟩, g0, g1, g2, g3⟩ := hS; go_simp; rfl)); simp only [Act.put, List.setIfInBounds_toArray, List.set_cons_zero, List.set_cons_succ])
      | (refine RW.off (by rfl) ?_; simp only [Act.put, List.setIfInBounds_toArray, List.set_cons_zero, List.set_cons_succ])
      | (refine' RW.call (by rfl) ?_ ?_ ?_
         rotate_left 3
         (focus (intro w' hS; obtain ⟨HB, ⟨d0, d1, d2⟩, g0, g1, g2, g3⟩ := hS; go_simp; exact ⟨rfl, rfl⟩))
         (focus
           intro w' hS
           obtain ⟨HB, ⟨d0, d1, d2⟩, g0, g1, g2, g3⟩ := hS
           first
             | (refine (rEncode_is _ _ _ _ _ _ h0 h1 _ _ HX.out HQ.out _).mono ?_; rintro e w1 ⟨rfl, hb⟩; exact ⟨rfl, ⟨(below_seq HB hb), ⟨(cell_below (B := 0) hb d0), (cell_below (B := 0) hb d1), (cell_below (B := 0) hb d2)⟩, (cell_below (B := 0) hb g0), (cell_below (B := 0) hb g1), (cell_below (B := 0) hb g2), (cell_below (B := 0) hb g3)⟩⟩))
         simp only [Act.put, List.setIfInBounds_toArray, List.set_cons_zero, List.set_cons_succ]))
    refine RW.done (fun w' hS => ?_)
    obtain ⟨HB, ⟨d0, d1, d2⟩, g0, g1, g2, g3⟩ := hS
    go_wp2
    refine RW.start (fun w' => Below w.heap.size w w' ∧ w'.cell? (bd.add k) = some (.int .i64 at_)) (by kernel_rfl) (by kernel_rfl) ⟨HB.drew, g3⟩ ?_
    clear HB d0 d1 d2 g0 g1 g2 g3
    repeat (first
      | (refine' RW.val (by rfl) ?_ ?_; rotate_left; (focus (intro w' hS; obtain ⟨HB, g3⟩ := hS; go_simp; rfl)); simp only [Act.put, List.setIfInBounds_toArray, List.set_cons_zero, List.set_cons_succ])
      | (refine RW.off (by rfl) ?_; simp only [Act.put, List.setIfInBounds_toArray, List.set_cons_zero, List.set_cons_succ]))
    refine RW.done (fun w' hS => ?_)
    obtain ⟨HB, g3⟩ := hS
    go_wp2
    go_ret2
    exact ⟨rfl, HB⟩
theorem rSet_calls (s : ByteArray) (A : Option Addr) (c : Nat) (fs : List Fd) (nm : ByteArray) (v : Vl) (h0 : 0 ≤ v.b) (h1 : v.b < 18446744073709551616) (w : World) (hA : Rd w A (cellsF fs)) (hl : fs.length ≤ 9223372036854775807) (hs : ∀ f ∈ fs, f.s.size ≤ 9223372036854775807) :
    Calls Tryz.prog 30 #[.string s, .slice A fs.length c, .string nm, v.v] w fun e w' => e = .returned (.tuple #[.string (strL (setB (bl s) fs nm v)), .int .i64 (setE (bl s) fs nm v)]) ∧ Below w.heap.size w w' := by
  cases h : locF fs s.size nm with
  | inl q =>
    have e1 : setB (bl s) fs nm v = [] := by simp [setB, bl_length, h]
    have e2 : setE (bl s) fs nm v = q := by simp [setE, bl_length, h]
    rw [e1, e2]
    exact rSet_bad s A c fs nm v q h w hA hl hs
  | inr x =>
    obtain ⟨at_, f⟩ := x
    exact rSet_ok s A c fs nm v h0 h1 at_ f h w hA hl hs
end Go.Proofs.YtehcpjodkadfnaaGreat
/- Layer 6 of the heap, fields, twentieth part: the reference writes fields; two rows of fields are told apart. -/
set_option linter.unusedSimpArgs false
set_option linter.unusedVariables false
set_option maxRecDepth 100000
namespace Go.Proofs.YtehcpjodkadfnaaGreat
open Go.RowKit

theorem rPut1_is (n : Int) (h0 : 0 ≤ n) (h1 : n < 256) (p : ByteArray) (hp : strL [UInt8.ofNat n.toNat] = p) (w : World) : Calls Tryz.prog 78 #[.int .i64 1, .int .u64 n] w fun e w' => e = .returned (.string p) ∧ Below w.heap.size w w' := by
  have := rPut_calls n 1 (by omega) h0 (by omega) w
  have e : putL n 1 = [UInt8.ofNat n.toNat] := by
    have hf : fitsB n 1 false = true := by simp [fitsB, widthB, topZ]; omega
    rw [show ((1 : Nat) : Int) = 1 from rfl] at *
    rw [putL]
    rw [show ((1 : Nat) : Int) = 1 from rfl, if_pos hf]
    simp [leL, byteZ]
    congr 2
    omega
  rw [e, hp] at this
  exact this
def wrS (fs : List Fd) : ByteArray := strL (wrL fs)
instance : DecidableEq Fd := fun a b => decidable_of_iff (a.s = b.s ∧ a.k = b.k ∧ a.l = b.l) (by cases a; cases b; simp)
def sameFB (a b : List Fd) : Bool := decide (a = b)
theorem toList_iff (a b : ByteArray) : a.toList = b.toList ↔ a = b := by
  constructor
  · intro h
    simp only [ByteArray.toList_eq] at h
    have : a.data = b.data := Array.toList_inj.1 h
    cases a; cases b; simp_all
  · intro h; rw [h]
theorem fd_ways (x y : Fd) : (¬ x = y ∧ ¬ x.s.toList = y.s.toList) ∨ (¬ x = y ∧ x.s.toList = y.s.toList ∧ ¬ x.k = y.k) ∨ (¬ x = y ∧ x.s.toList = y.s.toList ∧ x.k = y.k ∧ ¬ x.l = y.l) ∨ (x = y ∧ x.s.toList = y.s.toList ∧ x.k = y.k ∧ x.l = y.l) := by
  simp only [toList_iff]
  have e : x = y ↔ x.s = y.s ∧ x.k = y.k ∧ x.l = y.l := by cases x; cases y; simp
  rw [e]
  by_cases h1 : x.s = y.s <;> by_cases h2 : x.k = y.k <;> by_cases h3 : x.l = y.l <;> simp [h1, h2, h3]
end Go.Proofs.YtehcpjodkadfnaaGreat
