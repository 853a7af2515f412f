/- Layer 6 of the heap, fields, eighteenth part: the reference gets a field. -/
import Derived.Test.YtepfabijmhhhcaaGq
set_option linter.unusedSimpArgs false
set_option linter.unusedVariables false
namespace Go.Proofs.Ytepfabijmhhhcaa
open Go.RowKit

theorem own_far {w : World} {base : Nat} {e : TypeId} {size n : Nat} {v : Value} {xs : List Value} (h : w.ownsRow base e size v n xs) : ∃ A c, v = .slice A n c ∧ n ≤ c ∧ c ≤ maxLen ∧ Rd w A xs ∧ ∀ ad, A = some ad → base ≤ ad.block := by
  obtain ⟨A, c, e, h1, h2, h3⟩ := own_rd h
  refine ⟨A, c, e, h1, h2, h3, fun ad ha => ?_⟩
  subst ha
  exact own_base h ad.block (by rw [e]; rfl)
theorem rLayout_at (A : Option Addr) (c : Nat) (fs : List Fd) (z : Nat) (hz : sizeF fs = z) (w : World) (hA : Rd w A (cellsF fs)) (hl : fs.length ≤ 9223372036854775807) (hs : ∀ f ∈ fs, f.s.size ≤ 9223372036854775807) :
    Calls Try.prog 14 #[.slice A fs.length c] w fun e w' => ∃ B m c', e = .returned (.tuple #[.slice B m c', .int .i64 (z : Nat)]) ∧ m = (layL fs).length ∧ Rd w' B (intsV (layL fs)) ∧ (∀ ad, B = some ad → w.heap.size ≤ ad.block) ∧ Below w.heap.size w w' := by
  subst hz
  cases hr : rightF fs
  · refine (rLayout_no A c fs hr w hA hl hs).mono ?_
    rintro e w' ⟨rfl, hb⟩
    have e1 : layL fs = [] := by simp [layL, hr]
    have e2 : sizeF fs = 0 := by simp [sizeF, hr]
    rw [e1, e2]
    exact ⟨none, 0, 0, rfl, rfl, Rd.nil _ _, (fun _ h => by cases h), hb⟩
  · refine (rLayout_yes A c fs hr w hA hl hs).mono ?_
    rintro e w' ⟨v, rfl, ho, hb⟩
    have e1 : layL fs = (seqF 0 fs).map Prod.fst := by simp [layL, hr]
    have e2 : sizeF fs = upN (endF 0 fs) 8 := by simp [sizeF, hr]
    obtain ⟨B, c', rfl, _, _, h2, h3⟩ := own_far ho
    rw [e1, e2]
    exact ⟨B, _, c', rfl, by rw [List.length_map, seqF_length], h2, h3, hb⟩
theorem far3 {w : World} {b : Nat} {x y z v : Value} {q : Addr} (h : w.cell? q = some v) (hne : q.block ≠ b) : (((w.setCell ⟨b, 0, none⟩ x).setCell ⟨b, 1, none⟩ y).setCell ⟨b, 2, none⟩ z).cell? q = some v := by
  have e : ∀ (u : World) (o : Nat) (x : Value), (u.setCell ⟨b, o, none⟩ x).cell? q = u.cell? q := fun u o x => by
    simp only [World.cell?]
    rw [Below.heap_setCell u ⟨b, o, none⟩ x q.block (fun e => hne e)]
  rw [e, e, e]; exact h
set_option maxHeartbeats 4000000 in
theorem rGet_bad (s : ByteArray) (A : Option Addr) (c : Nat) (fs : List Fd) (nm : ByteArray) (q : Int) (h : locF fs s.size nm = .inl q) (w : World) (hA : Rd w A (cellsF fs)) (hl : fs.length ≤ 9223372036854775807) (hs : ∀ f ∈ fs, f.s.size ≤ 9223372036854775807) :
    Calls Try.prog 26 #[.string s, .slice A fs.length c, .string nm] w fun e w' => e = .returned (.tuple #[.agg #[.int .i64 0, .int .u64 0, .string ⟨#[]⟩], .int .i64 q]) ∧ Below w.heap.size w w' := by
  obtain ⟨z, hz⟩ : ∃ z, sizeF fs = z := ⟨_, rfl⟩
  have HZ := Lib.hid hz
  have hcase : (rightF fs = false ∧ q = 60) ∨ (rightF fs = true ∧ ((s.size : Int) != (z : Int)) = true ∧ q = 60) ∨ (rightF fs = true ∧ ((s.size : Int) != (z : Int)) = false ∧ q = 61 ∧ findZ fs nm < 0) := by
    rcases loc_bad h with ⟨rfl, h1⟩ | ⟨rfl, h1, h2, h3⟩
    · cases hr : rightF fs
      · exact .inl ⟨rfl, rfl⟩
      · rw [hr] at h1
        have h1 := h1.resolve_left (by simp)
        exact .inr (.inl ⟨rfl, by rw [← hz]; simp; omega, rfl⟩)
    · exact .inr (.inr ⟨h1, by rw [← hz, h2]; simp, rfl, h3⟩)
  clear h hz
  rcases hcase with ⟨hr, rfl⟩ | ⟨hr, hne, rfl⟩ | ⟨hr, hne, rfl, hk⟩
  · have HR := Lib.hid hr
    clear hr
    go_enter Try.func26, Try.ntmps26
    go_wp2_with (first
      | (go_at_call 14; refine (rLayout_is A c fs z HZ.out _ (hA.below (below_new _)) hl hs).mono ?_; rintro e w1 ⟨B, m, c', rfl, hm, hrd, hb1⟩; have hA1 := (hA.below (below_new _)).below hb1)
      | (go_at_call 16; refine (rFRight_is A c fs _ HR.out _ hA1 hl hs).mono ?_; rintro e w2 ⟨rfl, hb2⟩; obtain ⟨k0, k1, k2, f0, f1, f2⟩ := (((OBox.new w [.int .i64 0, .int .u64 0, .string ⟨#[]⟩] 37).below hb1).below hb2).f3; have HB := below_seq (below_seq (below_new _) hb1) hb2))
    refine bodyPost_ret (v := .tuple #[.agg #[.int .i64 0, .int .u64 0, .string ⟨#[]⟩], .int .i64 60]) (by simp [results, Try.results26, go_sem, *]; done) rfl ⟨rfl, ?_⟩
    (repeat (first | exact HB | refine Below.setCell ?_ (by dsimp only; omega) _ | refine Below.alloc ?_ (by have hs_ := HB.size; first | (simp; done) | (simp; omega) | omega) _ | apply Below.drew))
  · have HR := Lib.hid hr
    clear hr
    go_enter Try.func26, Try.ntmps26
    go_wp2_with (first
      | (go_at_call 14; refine (rLayout_is A c fs z HZ.out _ (hA.below (below_new _)) hl hs).mono ?_; rintro e w1 ⟨B, m, c', rfl, hm, hrd, hb1⟩; have hA1 := (hA.below (below_new _)).below hb1)
      | (go_at_call 16; refine (rFRight_is A c fs _ HR.out _ hA1 hl hs).mono ?_; rintro e w2 ⟨rfl, hb2⟩; obtain ⟨k0, k1, k2, f0, f1, f2⟩ := (((OBox.new w [.int .i64 0, .int .u64 0, .string ⟨#[]⟩] 37).below hb1).below hb2).f3; have HB := below_seq (below_seq (below_new _) hb1) hb2))
    refine bodyPost_ret (v := .tuple #[.agg #[.int .i64 0, .int .u64 0, .string ⟨#[]⟩], .int .i64 60]) (by simp [results, Try.results26, go_sem, *]; done) rfl ⟨rfl, ?_⟩
    (repeat (first | exact HB | refine Below.setCell ?_ (by dsimp only; omega) _ | refine Below.alloc ?_ (by have hs_ := HB.size; first | (simp; done) | (simp; omega) | omega) _ | apply Below.drew))
  · have HR := Lib.hid hr
    obtain ⟨k, hkz⟩ : ∃ k, findZ fs nm = k := ⟨_, rfl⟩
    rw [hkz] at hk
    have HK := Lib.hid hkz
    have hd : decide (k < 0) = true := by simpa using hk
    clear hr hkz
    go_enter Try.func26, Try.ntmps26
    go_wp2_with (first
      | (go_at_call 14; refine (rLayout_is A c fs z HZ.out _ (hA.below (below_new _)) hl hs).mono ?_; rintro e w1 ⟨B, m, c', rfl, hm, hrd, hb1⟩; have hA1 := (hA.below (below_new _)).below hb1)
      | (go_at_call 16; refine (rFRight_is A c fs _ HR.out _ hA1 hl hs).mono ?_; rintro e w2 ⟨rfl, hb2⟩; have hA2 := hA1.below hb2)
      | (go_at_call 22; refine (rFind_is A c fs _ _ HK.out _ hA2 hl).mono ?_; rintro e w3 ⟨rfl, rfl⟩; obtain ⟨k0, k1, k2, f0, f1, f2⟩ := (((OBox.new w [.int .i64 0, .int .u64 0, .string ⟨#[]⟩] 37).below hb1).below hb2).f3; have HB := below_seq (below_seq (below_new _) hb1) hb2))
    refine bodyPost_ret (v := .tuple #[.agg #[.int .i64 0, .int .u64 0, .string ⟨#[]⟩], .int .i64 61]) (by simp [results, Try.results26, go_sem, *]; done) rfl ⟨rfl, ?_⟩
    (repeat (first | exact HB | refine Below.setCell ?_ (by dsimp only; omega) _ | refine Below.alloc ?_ (by have hs_ := HB.size; first | (simp; done) | (simp; omega) | omega) _ | apply Below.drew))
set_option maxHeartbeats 8000000 in
theorem rGet_ok (s : ByteArray) (A : Option Addr) (c : Nat) (fs : List Fd) (nm : ByteArray) (at_ : Nat) (f : Fd) (h : locF fs s.size nm = .inr (at_, f)) (w : World) (hA : Rd w A (cellsF fs)) (hl : fs.length ≤ 9223372036854775807) (hs : ∀ f ∈ fs, f.s.size ≤ 9223372036854775807) :
    Calls Try.prog 26 #[.string s, .slice A fs.length c, .string nm] w fun e w' => e = .returned (.tuple #[(decF (((bl s).drop at_).take f.n) f).v, .int .i64 (decE (((bl s).drop at_).take f.n) f.k f.l)]) ∧ Below w.heap.size w w' := by
  obtain ⟨hm, hin, hlen, hn⟩ := loc_in h
  obtain ⟨hr, hz, k, hk, hf, hat⟩ := loc_ok h
  have hn2 := f.n_le
  obtain ⟨sub, hsub⟩ : ∃ x, s.extract at_ (at_ + f.n) = x := ⟨_, rfl⟩
  have hbs : ((bl s).drop at_).take f.n = bl sub := by rw [← hsub, bl_extract]; congr 1; omega
  rw [hbs]
  obtain ⟨dv, hdv⟩ : ∃ x, decF (bl sub) f = x := ⟨_, rfl⟩
  obtain ⟨de, hde⟩ : ∃ x, decE (bl sub) f.k f.l = x := ⟨_, rfl⟩
  rw [hdv, hde]
  have HDV := Lib.hid ((decF_v _ f).trans (congrArg Vl.v hdv))
  have HDE := Lib.hid hde
  have hsz : sub.size ≤ 9223372036854775807 := by
    have := congrArg List.length hbs
    rw [bl_length, List.length_take] at this; omega
  have HSUB := Lib.hid hsub
  have HN := Lib.hid f.n_eq.symm
  have HR := Lib.hid hr
  have HZ := Lib.hid hz.symm
  have HK := Lib.hid hk
  have HF := Lib.hid hf
  have HT := Lib.hid hat
  have hk1 := (List.getElem?_eq_some_iff.1 hf).1
  have hk2 := (List.getElem?_eq_some_iff.1 hat).1
  clear h hdv hde hr hz hk hf hat hbs hsub
  go_enter Try.func26, Try.ntmps26
  go_wp2_with (first
    | (go_at_call 14; refine (rLayout_at A c fs s.size HZ.out _ (hA.below (below_new _)) hl hs).mono ?_; rintro e w1 ⟨B, m, c', rfl, hm, hrd, hfar, hb1⟩; have hA1 := (hA.below (below_new _)).below hb1)
    | (go_at_call 16; refine (rFRight_is A c fs _ HR.out _ hA1 hl hs).mono ?_; rintro e w2 ⟨rfl, hb2⟩; have hA2 := hA1.below hb2)
    | (go_at_call 22; refine (rFind_is A c fs _ _ HK.out _ hA2 hl).mono ?_; rintro e w3 ⟨rfl, rfl⟩; have O2 := ((OBox.new w [.int .i64 0, .int .u64 0, .string ⟨#[]⟩] 37).below hb1).below hb2; have HB := below_seq (below_seq (below_new _) hb1) hb2; obtain ⟨ad, rfl, g0, g1, g2⟩ := hA2.fld HF.out; obtain ⟨bd, rfl, g3⟩ := (hrd.below hb2).int HT.out; have hfb := hfar bd rfl; obtain ⟨ad', hade, g4, _, _⟩ := hA.fld HF.out; cases hade; have hfa := World.block_lt_of_cell? w _ g4))
  have hi0 : (0 : Int) ≤ (k : Int) := by omega
  have hi1 : (k : Int) < ((layL fs).length : Int) := by omega
  have hi2 : (k : Int) < (fs.length : Int) := by omega
  have hlong : sub.size ≤ 9223372036854775807 := hsz
  have hs1 : (at_ : Int) ≤ (at_ : Int) + (f.n : Int) := by omega
  have hs2 : (at_ : Int) + (f.n : Int) ≤ (s.size : Int) := by omega
  have hs3 : ((at_ : Int) + (f.n : Int)).toNat = at_ + f.n := by omega
  have hs4 : (0 : Int) ≤ (at_ : Int) + (f.n : Int) := by omega
  have hs5 : IntKind.i64.wrap ((at_ : Int) + (f.n : Int)) = (at_ : Int) + (f.n : Int) := IntWalk.i64_in _ (by omega)
  have hcut := HSUB.out
  have O3 : OBox w2.drew w.heap.size [.int .i64 0, .int .u64 0, .string ⟨#[]⟩] 37 := O2
  have HB := HB.drew
  have hne1 : (bd.add k).block ≠ w.heap.size := by rw [show (bd.add k).block = bd.block by unfold Addr.add; split <;> rfl]; simp at hfb; omega
  have hne2 : (ad.add (k * 3)).block ≠ w.heap.size := by omega
  clear g4 hfa hfar hfb
  clear hA hA1 hA2 HR HZ HK HF HT hrd hb1 hb2 hs
  go_region_held3 (fun w' => w'.cell? (bd.add k) = some (.int .i64 at_) ∧ w'.cell? (ad.add (k * 3)) = some (.string f.s) ∧ w'.cell? ⟨(ad.add (k * 3)).block, (ad.add (k * 3)).off + 1, none⟩ = some (.int .i64 f.k) ∧ w'.cell? ⟨(ad.add (k * 3)).block, (ad.add (k * 3)).off + 2, none⟩ = some (.int .i64 f.l))
    (first | go_keep | (go_split_ands; refine ⟨?_, ?_, ?_, ?_⟩ <;> (first | exact cell_below (B := 0) hb4 (by assumption) | exact cell_below (B := 0) hb3 (by assumption))) | (go_split_ands; exact ⟨far3 (by assumption) hne1, far3 (by assumption) hne2, far3 (by assumption) hne2, far3 (by assumption) hne2⟩))
    (first
      | (go_at_call 29; refine (rLong_is _ _ _ _ HN.out _).mono ?_; rintro e w3 ⟨rfl, hb3⟩)
      | (go_at_call 44; refine (rDecode_is _ _ _ _ hlong dv de HDV.out HDE.out _).mono ?_; rintro e w4 ⟨rfl, hb4⟩; obtain ⟨l0, l1, l2, m0, m1, m2⟩ := ((O3.below hb3).below hb4).f3))
  go_wp2
  refine bodyPost_ret (v := .tuple #[.agg #[.int .i64 dv.k, .int .u64 dv.b, .string dv.t], .int .i64 de]) (by simp [results, Try.results26, go_sem, *]; done) rfl ⟨rfl, ?_⟩
  have HB := below_seq (below_seq HB hb3) hb4
  (repeat (first | exact HB | refine Below.setCell ?_ (by dsimp only; omega) _ | refine Below.alloc ?_ (by have hs_ := HB.size; first | (simp; done) | (simp; omega) | omega) _ | apply Below.drew))
theorem rGet_calls (s : ByteArray) (A : Option Addr) (c : Nat) (fs : List Fd) (nm : ByteArray) (w : World) (hA : Rd w A (cellsF fs)) (hl : fs.length ≤ 9223372036854775807) (hs : ∀ f ∈ fs, f.s.size ≤ 9223372036854775807) :
    Calls Try.prog 26 #[.string s, .slice A fs.length c, .string nm] w fun e w' => e = .returned (.tuple #[(getV (bl s) fs nm).v, .int .i64 (getE (bl s) fs nm)]) ∧ Below w.heap.size w w' := by
  cases h : locF fs s.size nm with
  | inl q =>
    have e1 : getV (bl s) fs nm = Vl.z := by simp [getV, bl_length, h]
    have e2 : getE (bl s) fs nm = q := by simp [getE, bl_length, h]
    rw [e1, e2]
    exact rGet_bad s A c fs nm q h w hA hl hs
  | inr x =>
    obtain ⟨at_, f⟩ := x
    have e1 : getV (bl s) fs nm = decF (((bl s).drop at_).take f.n) f := by simp [getV, bl_length, h]
    have e2 : getE (bl s) fs nm = decE (((bl s).drop at_).take f.n) f.k f.l := by simp [getE, bl_length, h]
    rw [e1, e2]
    exact rGet_ok s A c fs nm at_ f h w hA hl hs
end Go.Proofs.Ytepfabijmhhhcaa
