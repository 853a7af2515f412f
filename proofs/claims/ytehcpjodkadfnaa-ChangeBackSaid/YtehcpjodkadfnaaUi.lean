/- Merged out of: Gr Gs Gt Gu Gv Gw Ha Kn Kp. -/
import Derived.Test.YtehcpjodkadfnaaUh
import Derived.Test.YtehcpjodkadfnaaUg
import Derived.Deep.DeepCutAuto
/- Layer 6 of the heap, fields, eighteenth part: the reference gets a field. -/
set_option linter.unusedSimpArgs false
set_option linter.unusedVariables false
set_option maxRecDepth 100000
namespace Go.Proofs.Ytehcpjodkadfnaa
open Go.RowKit

theorem own_far {w : World} {base : Nat} {e : TypeId} {size n : Nat} {v : Value} {xs : List Value} (h : w.ownsRow base e size v n xs) : ∃ A c, v = .slice A n c ∧ n ≤ c ∧ c ≤ maxLen ∧ Rd w A xs ∧ ∀ ad, A = some ad → base ≤ ad.block := by
  obtain ⟨A, c, e, h1, h2, h3⟩ := own_rd h
  refine ⟨A, c, e, h1, h2, h3, fun ad ha => ?_⟩
  subst ha
  exact own_base h ad.block (by rw [e]; rfl)
theorem far3 {w : World} {b : Nat} {x y z v : Value} {q : Addr} (h : w.cell? q = some v) (hne : q.block ≠ b) : (((w.setCell ⟨b, 0, none⟩ x).setCell ⟨b, 1, none⟩ y).setCell ⟨b, 2, none⟩ z).cell? q = some v := by
  have e : ∀ (u : World) (o : Nat) (x : Value), (u.setCell ⟨b, o, none⟩ x).cell? q = u.cell? q := fun u o x => by
    simp only [World.cell?]
    rw [Below.heap_setCell u ⟨b, o, none⟩ x q.block (fun e => hne e)]
  rw [e, e, e]; exact h
end Go.Proofs.Ytehcpjodkadfnaa
/- Layer 6 of the heap, fields, nineteenth part: the reference sets a field. -/
set_option linter.unusedSimpArgs false
set_option linter.unusedVariables false
set_option maxRecDepth 100000
namespace Go.Proofs.Ytehcpjodkadfnaa
open Go.RowKit

theorem strL_over (s x : ByteArray) (i : Nat) (h : i + x.size ≤ s.size) : s.extract 0 i ++ x ++ s.extract (i + x.size) s.size = strL (overB (bl s) i (bl x)) := by
  have e : ∀ a b : ByteArray, bl (a ++ b) = bl a ++ bl b := fun a b => by simp [bl, ByteArray.data_append]
  rw [← strL_bl (s.extract 0 i ++ x ++ s.extract (i + x.size) s.size), e, e, bl_extract, bl_extract, overB, bl_length]
  rw [List.drop_zero, Nat.sub_zero, List.take_of_length_le (l := (bl s).drop (i + x.size)) (by rw [List.length_drop, bl_length]; exact Nat.le_refl _)]
end Go.Proofs.Ytehcpjodkadfnaa
/- Layer 6 of the heap, fields, twentieth part: the reference writes fields; two rows of fields are told apart. -/
set_option linter.unusedSimpArgs false
set_option linter.unusedVariables false
set_option maxRecDepth 100000
namespace Go.Proofs.Ytehcpjodkadfnaa
open Go.RowKit

def wrS (fs : List Fd) : ByteArray := strL (wrL fs)
instance : DecidableEq Fd := fun a b => decidable_of_iff (a.s = b.s ∧ a.k = b.k ∧ a.l = b.l) (by cases a; cases b; simp)
def sameFB (a b : List Fd) : Bool := decide (a = b)
theorem toList_iff (a b : ByteArray) : a.toList = b.toList ↔ a = b := by
  constructor
  · intro h
    simp only [ByteArray.toList_eq] at h
    have : a.data = b.data := Array.toList_inj.1 h
    cases a; cases b; simp_all
  · intro h; rw [h]
theorem fd_ways (x y : Fd) : (¬ x = y ∧ ¬ x.s.toList = y.s.toList) ∨ (¬ x = y ∧ x.s.toList = y.s.toList ∧ ¬ x.k = y.k) ∨ (¬ x = y ∧ x.s.toList = y.s.toList ∧ x.k = y.k ∧ ¬ x.l = y.l) ∨ (x = y ∧ x.s.toList = y.s.toList ∧ x.k = y.k ∧ x.l = y.l) := by
  simp only [toList_iff]
  have e : x = y ↔ x.s = y.s ∧ x.k = y.k ∧ x.l = y.l := by cases x; cases y; simp
  rw [e]
  by_cases h1 : x.s = y.s <;> by_cases h2 : x.k = y.k <;> by_cases h3 : x.l = y.l <;> simp [h1, h2, h3]
set_option maxHeartbeats 4000000 in
theorem rSame_calls (A B : Option Addr) (c d : Nat) (a b : List Fd) (w : World) (hA : Rd w A (cellsF a)) (hB : Rd w B (cellsF b)) (ha : a.length ≤ 9223372036854775807) (hb : b.length ≤ 9223372036854775807) :
    Calls Try.prog 15 #[.slice A a.length c, .slice B b.length d] w fun e w' => e = .returned (.bool (sameFB a b)) ∧ Below w.heap.size w w' := by
  by_cases hlen : a.length = b.length
  · have hz : ((a.length : Int) != (b.length : Int)) = false := by rw [hlen]; simp
    obtain ⟨r, hr⟩ : ∃ r, sameFB a b = r := ⟨_, rfl⟩
    rw [hr]
    have HR := Lib.hid hr
    have HL := Lib.hid hlen
    clear hr
    obtain ⟨m, hm⟩ : ∃ m, b.length = m := ⟨_, rfl⟩
    rw [hm] at hz hlen ⊢
    have HM := Lib.hid hm
    clear hm hlen hb
    go_enter Try.func15, Try.ntmps15
    go_wp2
    go_loopw [5] (fun i wr => ∃ k : Nat, k ≤ a.length ∧ i = .int .i64 k ∧ Below w.heap.size w wr ∧ Hid (a.take k = b.take k)) (fun i _ => a.length - (intOf i).toNat)
    case atStart => exact ⟨0, by omega, rfl, Below.refl _ _, Lib.hid rfl⟩
    case round =>
      obtain ⟨k, hk, rfl, HB, hall⟩ := hrel
      have hAr := hA.below HB
      have hBr := hB.below HB
      clear hA hB
      by_cases hlt : k < a.length
      · have hlb : k < m := by have := HL.out; have := HM.out; omega
        obtain ⟨x, hx⟩ : ∃ x, a[k]? = some x := ⟨_, List.getElem?_eq_getElem hlt⟩
        obtain ⟨y, hy⟩ : ∃ y, b[k]? = some y := ⟨_, List.getElem?_eq_getElem (by rw [HM.out]; exact hlb)⟩
        obtain ⟨ad, rfl, c0, c1, c2⟩ := hAr.fld hx
        obtain ⟨bd, rfl, d0, d1, d2⟩ := hBr.fld hy
        have HX := Lib.hid hx
        have HY := Lib.hid hy
        clear hx hy hAr hBr
        have hi0 : (0 : Int) ≤ (k : Int) := by omega
        have hi1 : (k : Int) < (a.length : Int) := by omega
        have hi2 : (k : Int) < (m : Int) := by omega
        go_wp2
        rcases fd_ways x y with ⟨hne, h1⟩ | ⟨hne, h1, h2⟩ | ⟨hne, h1, h2, h3⟩ | ⟨he, h1, h2, h3⟩
        · obtain rfl : r = false := by
            rw [← HR.out]; simp [sameFB]; intro e
            have h1 := HX.out; rw [e, HY.out] at h1; exact hne (Option.some.inj h1).symm
          clear hne hall
          refine RW.start (fun w' => Below w.heap.size w w' ∧ (w'.cell? (ad.add (k * 3)) = some (.string x.s) ∧ w'.cell? ⟨(ad.add (k * 3)).block, (ad.add (k * 3)).off + (0 + 1), none⟩ = some (.int .i64 x.k) ∧ w'.cell? ⟨(ad.add (k * 3)).block, (ad.add (k * 3)).off + (1 + 1), none⟩ = some (.int .i64 x.l)) ∧ (w'.cell? (bd.add (k * 3)) = some (.string y.s) ∧ w'.cell? ⟨(bd.add (k * 3)).block, (bd.add (k * 3)).off + (0 + 1), none⟩ = some (.int .i64 y.k) ∧ w'.cell? ⟨(bd.add (k * 3)).block, (bd.add (k * 3)).off + (1 + 1), none⟩ = some (.int .i64 y.l))) (by kernel_rfl) (by kernel_rfl) ⟨HB.drew, ⟨c0, c1, c2⟩, d0, d1, d2⟩ ?_
          clear HB c0 c1 c2 d0 d1 d2
          repeat (first
            | (refine' RW.val (by rfl) ?_ ?_; rotate_left; (focus (intro w' hS; obtain ⟨HB, ⟨c0, c1, c2⟩, d0, d1, d2⟩ := hS; go_simp; rfl)); simp only [Act.put, List.setIfInBounds_toArray, List.set_cons_zero, List.set_cons_succ])
            | (refine RW.off (by rfl) ?_; simp only [Act.put, List.setIfInBounds_toArray, List.set_cons_zero, List.set_cons_succ]))
          refine RW.done (fun w' hS => ?_)
          obtain ⟨HB, ⟨c0, c1, c2⟩, d0, d1, d2⟩ := hS
          go_wp2
          go_ret
          exact ⟨rfl, HB⟩
        · obtain rfl : r = false := by
            rw [← HR.out]; simp [sameFB]; intro e
            have h1 := HX.out; rw [e, HY.out] at h1; exact hne (Option.some.inj h1).symm
          clear hne hall
          refine RW.start (fun w' => Below w.heap.size w w' ∧ (w'.cell? (ad.add (k * 3)) = some (.string x.s) ∧ w'.cell? ⟨(ad.add (k * 3)).block, (ad.add (k * 3)).off + (0 + 1), none⟩ = some (.int .i64 x.k) ∧ w'.cell? ⟨(ad.add (k * 3)).block, (ad.add (k * 3)).off + (1 + 1), none⟩ = some (.int .i64 x.l)) ∧ (w'.cell? (bd.add (k * 3)) = some (.string y.s) ∧ w'.cell? ⟨(bd.add (k * 3)).block, (bd.add (k * 3)).off + (0 + 1), none⟩ = some (.int .i64 y.k) ∧ w'.cell? ⟨(bd.add (k * 3)).block, (bd.add (k * 3)).off + (1 + 1), none⟩ = some (.int .i64 y.l))) (by kernel_rfl) (by kernel_rfl) ⟨HB.drew, ⟨c0, c1, c2⟩, d0, d1, d2⟩ ?_
          clear HB c0 c1 c2 d0 d1 d2
          repeat (first
            | (refine' RW.val (by rfl) ?_ ?_; rotate_left; (focus (intro w' hS; obtain ⟨HB, ⟨c0, c1, c2⟩, d0, d1, d2⟩ := hS; go_simp; rfl)); simp only [Act.put, List.setIfInBounds_toArray, List.set_cons_zero, List.set_cons_succ])
            | (refine RW.off (by rfl) ?_; simp only [Act.put, List.setIfInBounds_toArray, List.set_cons_zero, List.set_cons_succ]))
          refine RW.done (fun w' hS => ?_)
          obtain ⟨HB, ⟨c0, c1, c2⟩, d0, d1, d2⟩ := hS
          go_wp2
          go_ret
          exact ⟨rfl, HB⟩
        · obtain rfl : r = false := by
            rw [← HR.out]; simp [sameFB]; intro e
            have h1 := HX.out; rw [e, HY.out] at h1; exact hne (Option.some.inj h1).symm
          clear hne hall
          refine RW.start (fun w' => Below w.heap.size w w' ∧ (w'.cell? (ad.add (k * 3)) = some (.string x.s) ∧ w'.cell? ⟨(ad.add (k * 3)).block, (ad.add (k * 3)).off + (0 + 1), none⟩ = some (.int .i64 x.k) ∧ w'.cell? ⟨(ad.add (k * 3)).block, (ad.add (k * 3)).off + (1 + 1), none⟩ = some (.int .i64 x.l)) ∧ (w'.cell? (bd.add (k * 3)) = some (.string y.s) ∧ w'.cell? ⟨(bd.add (k * 3)).block, (bd.add (k * 3)).off + (0 + 1), none⟩ = some (.int .i64 y.k) ∧ w'.cell? ⟨(bd.add (k * 3)).block, (bd.add (k * 3)).off + (1 + 1), none⟩ = some (.int .i64 y.l))) (by kernel_rfl) (by kernel_rfl) ⟨HB.drew, ⟨c0, c1, c2⟩, d0, d1, d2⟩ ?_
          clear HB c0 c1 c2 d0 d1 d2
          repeat (first
            | (refine' RW.val (by rfl) ?_ ?_; rotate_left; (focus (intro w' hS; obtain ⟨HB, ⟨c0, c1, c2⟩, d0, d1, d2⟩ := hS; go_simp; rfl)); simp only [Act.put, List.setIfInBounds_toArray, List.set_cons_zero, List.set_cons_succ])
            | (refine RW.off (by rfl) ?_; simp only [Act.put, List.setIfInBounds_toArray, List.set_cons_zero, List.set_cons_succ]))
          refine RW.done (fun w' hS => ?_)
          obtain ⟨HB, ⟨c0, c1, c2⟩, d0, d1, d2⟩ := hS
          go_wp2
          go_ret
          exact ⟨rfl, HB⟩
        · have hall2 : Hid (a.take (k + 1) = b.take (k + 1)) := Lib.hid (by rw [List.take_add_one, List.take_add_one, hall.out, HX.out, HY.out, he])
          clear he hall
          refine RW.start (fun w' => Below w.heap.size w w' ∧ (w'.cell? (ad.add (k * 3)) = some (.string x.s) ∧ w'.cell? ⟨(ad.add (k * 3)).block, (ad.add (k * 3)).off + (0 + 1), none⟩ = some (.int .i64 x.k) ∧ w'.cell? ⟨(ad.add (k * 3)).block, (ad.add (k * 3)).off + (1 + 1), none⟩ = some (.int .i64 x.l)) ∧ (w'.cell? (bd.add (k * 3)) = some (.string y.s) ∧ w'.cell? ⟨(bd.add (k * 3)).block, (bd.add (k * 3)).off + (0 + 1), none⟩ = some (.int .i64 y.k) ∧ w'.cell? ⟨(bd.add (k * 3)).block, (bd.add (k * 3)).off + (1 + 1), none⟩ = some (.int .i64 y.l))) (by kernel_rfl) (by kernel_rfl) ⟨HB.drew, ⟨c0, c1, c2⟩, d0, d1, d2⟩ ?_
          clear HB c0 c1 c2 d0 d1 d2
          repeat (first
            | (refine' RW.val (by rfl) ?_ ?_; rotate_left; (focus (intro w' hS; obtain ⟨HB, ⟨c0, c1, c2⟩, d0, d1, d2⟩ := hS; go_simp; rfl)); simp only [Act.put, List.setIfInBounds_toArray, List.set_cons_zero, List.set_cons_succ])
            | (refine RW.off (by rfl) ?_; simp only [Act.put, List.setIfInBounds_toArray, List.set_cons_zero, List.set_cons_succ]))
          refine RW.done (fun w' hS => ?_)
          obtain ⟨HB, ⟨c0, c1, c2⟩, d0, d1, d2⟩ := hS
          go_wp2
          go_roundw
          case rel => exact ⟨k + 1, by omega, by go_num, HB, hall2⟩
          case measure => simp [intOf]; omega
      · obtain rfl : k = a.length := by omega
        obtain rfl : r = true := by
          rw [← HR.out]; have h := hall.out
          rw [List.take_length, HL.out, List.take_length] at h
          simpa [sameFB] using h
        clear hAr hBr
        go_wp2
        go_ret
        exact ⟨rfl, HB⟩
  · have hz : ((a.length : Int) != (b.length : Int)) = true := by simp; omega
    have hr : sameFB a b = false := by simp [sameFB]; intro e; exact hlen (by rw [e])
    rw [hr]
    clear hr hlen
    go_enter Try.func15, Try.ntmps15
    go_wp2
    go_ret
    exact ⟨rfl, Below.refl _ _⟩
end Go.Proofs.Ytehcpjodkadfnaa
/- Layer 6 of the heap, fields, twenty-first part: the reference reads fields. -/
set_option linter.unusedSimpArgs false
set_option linter.unusedVariables false
set_option maxRecDepth 100000
namespace Go.Proofs.Ytehcpjodkadfnaa
open Go.RowKit

theorem decL_whole {c : UInt8} {l0 l : List Fd} {r : List UInt8} (hw : ∀ f ∈ l0, wfF f) (h : decL (c :: (l0.flatMap rowF ++ r)) = some l) : l0 = l.take l0.length ∧ r = (l.drop l0.length).flatMap rowF ∧ rightF l = true := by
  obtain ⟨hr, he⟩ := (decL_iff _ _).1 h
  have h16 := (rightF_may hr).2
  rw [encFL] at he
  injection he with he1 he2
  have hc : l.length = c.toNat := by rw [← he1, u8_nat (by omega)]
  rcases Nat.lt_or_ge l.length l0.length with hlt | hge
  · exfalso
    have e1 := rdF_flat hw r (k := l.length) (by omega)
    have e2 := rdF_flat (rightF_wf hr) [] (Nat.le_refl l.length)
    rw [List.append_nil, he2, e1] at e2
    simp at e2
    have := e2.2.1
    cases hd : l0.drop l.length with
    | nil => have := congrArg List.length hd; simp at this; omega
    | cons f t => have := this f (by rw [hd]; exact List.mem_cons_self ..); simp [rowF] at this
  · obtain ⟨_, h2, h3, h4⟩ := decL_part hw (by omega) h
    exact ⟨h2, h3, h4⟩
theorem decL_stop2 {c : UInt8} {l0 : List Fd} {r : List UInt8} (hw : ∀ f ∈ l0, wfF f) (hne : r ≠ []) (hs : stepF r = none) : decL (c :: (l0.flatMap rowF ++ r)) = none := by
  cases hd : decL (c :: (l0.flatMap rowF ++ r)) with
  | none => rfl
  | some l =>
    obtain ⟨h2, h3, h4⟩ := decL_whole hw hd
    cases hdl : l.drop l0.length with
    | nil => rw [hdl] at h3; exact absurd h3 hne
    | cons f t =>
      rw [h3, hdl, List.flatMap_cons, step_row (rightF_wf h4 f (List.mem_of_mem_drop (by rw [hdl]; exact List.mem_cons_self ..)))] at hs
      cases hs
theorem decL_end2 {c : UInt8} {l0 : List Fd} (hw : ∀ f ∈ l0, wfF f) : decL (c :: l0.flatMap rowF) = if rightF l0 = true ∧ encFL l0 = c :: l0.flatMap rowF then some l0 else none := by
  split
  · rename_i h; exact (decL_iff _ _).2 h
  · rename_i hn
    cases hd : decL (c :: l0.flatMap rowF) with
    | none => rfl
    | some l =>
      have hd' : decL (c :: (l0.flatMap rowF ++ [])) = some l := by rw [List.append_nil]; exact hd
      obtain ⟨h2, h3, h4⟩ := decL_whole hw hd'
      have : l.drop l0.length = [] := by
        cases hdl : l.drop l0.length with
        | nil => rfl
        | cons f t => rw [hdl] at h3; simp [rowF] at h3
      have hl : l0 = l := by
        have e := List.take_append_drop l0.length l
        rw [this, ← h2, List.append_nil] at e
        exact e
      subst hl
      exact absurd ((decL_iff _ _).1 hd) hn
theorem bl_get (s : ByteArray) (i : Nat) (x : UInt8) (h : (bl s)[i]? = some x) : ∃ hi : i < s.size, s[i]'hi = x := by
  obtain ⟨h1, h2⟩ := List.getElem?_eq_some_iff.1 h
  refine ⟨by rw [← bl_length]; exact h1, ?_⟩
  rw [← h2]; rfl
end Go.Proofs.Ytehcpjodkadfnaa
/- Layer 6 of the heap, fields, twenty-second part: the contracts once more, their numbers under letters; the law's small functions. -/
set_option linter.unusedSimpArgs false
set_option linter.unusedVariables false
set_option maxRecDepth 100000
namespace Go.Proofs.Ytehcpjodkadfnaa
open Go.RowKit

theorem Right_m (A : Option Addr) (c m : Nat) (fs : List Fd) (hm : fs.length = m) (r : Bool) (h : rightF fs = r) (w : World) (hA : Rd w A (cellsF fs)) (hl : m ≤ 9223372036854775807) :
    Calls Try.prog 20 #[.slice A m c] w fun e w' => e = .returned (.bool r) ∧ Below w.heap.size w w' := by subst hm; exact FRight_is A c fs r h w hA hl
theorem rRight_m (A : Option Addr) (c m : Nat) (fs : List Fd) (hm : fs.length = m) (r : Bool) (h : rightF fs = r) (w : World) (hA : Rd w A (cellsF fs)) (hl : m ≤ 9223372036854775807) (hs : ∀ f ∈ fs, f.s.size ≤ 9223372036854775807) :
    Calls Try.prog 17 #[.slice A m c] w fun e w' => e = .returned (.bool r) ∧ Below w.heap.size w w' := by subst hm; exact rFRight_is A c fs r h w hA hl hs
theorem Find_m (A : Option Addr) (c m : Nat) (fs : List Fd) (hm : fs.length = m) (nm : ByteArray) (r : Int) (h : findZ fs nm = r) (w : World) (hA : Rd w A (cellsF fs)) (hl : m ≤ 9223372036854775807) :
    Calls Try.prog 40 #[.slice A m c, .string nm] w fun e w' => e = .returned (.int .i64 r) ∧ Below w.heap.size w w' := by subst hm; exact Find_is A c fs nm r h w hA hl
theorem rFind_m (A : Option Addr) (c m : Nat) (fs : List Fd) (hm : fs.length = m) (nm : ByteArray) (r : Int) (h : findZ fs nm = r) (w : World) (hA : Rd w A (cellsF fs)) (hl : m ≤ 9223372036854775807) :
    Calls Try.prog 19 #[.slice A m c, .string nm] w fun e w' => e = .returned (.int .i64 r) ∧ w = w' := by subst hm; exact rFind_is A c fs nm r h w hA hl
theorem Same6_m (A B : Option Addr) (c d m n : Nat) (a b : List Fd) (ha : a.length = m) (hb : b.length = n) (r : Bool) (hr : sameFB a b = r) (w : World) (hA : Rd w A (cellsF a)) (hB : Rd w B (cellsF b)) (hm : m ≤ 9223372036854775807) (hn : n ≤ 9223372036854775807) :
    Calls Try.prog 15 #[.slice A m c, .slice B n d] w fun e w' => e = .returned (.bool r) ∧ Below w.heap.size w w' := by
  subst ha hb hr; exact rSame_calls A B c d a b w hA hB hm hn
def FewP (fs : List Fd) (w : World) (e : Ending) (w' : World) : Prop := ∃ r : Bool, e = .returned (.bool r) ∧ (r = true → fs.length ≤ 40) ∧ Below w.heap.size w w'
end Go.Proofs.Ytehcpjodkadfnaa
/- Layer 6 of the heap, fields, twenty-third part: the law's example. -/
set_option linter.unusedSimpArgs false
set_option linter.unusedVariables false
set_option maxRecDepth 100000
namespace Go.Proofs.Ytehcpjodkadfnaa
open Go.RowKit

def L0 : List Fd := [⟨⟨#[97]⟩, 1, 0⟩, ⟨⟨#[98]⟩, 3, 0⟩, ⟨⟨#[99]⟩, 12, 3⟩, ⟨⟨#[100]⟩, 11, 0⟩]
def X0 : List UInt8 := [0, 0, 0, 0, 2, 1, 0, 0, 0, 0, 0, 0, 0, 0, 0, 0, 0, 0, 0, 0, 0, 0, 0, 0]
theorem al1 : sizeF L0 = 24 := by decide +kernel
theorem al2 : layL L0 = [0, 4, 8, 16] := by decide +kernel
theorem al3 : setB (List.replicate 24 0) L0 ⟨#[98]⟩ ⟨3, 258, ⟨#[]⟩⟩ = X0 := by decide +kernel
theorem al4 : setE (List.replicate 24 0) L0 ⟨#[98]⟩ ⟨3, 258, ⟨#[]⟩⟩ = 0 := by decide +kernel
theorem al5 : getE X0 L0 ⟨#[98]⟩ = 0 := by decide +kernel
theorem al6 : (getV X0 L0 ⟨#[98]⟩).b = 258 := by decide +kernel
theorem al7 : (wrL L0).length = 17 := by decide +kernel
theorem al8 : wrE L0 = 0 := by decide +kernel
theorem al9 : refsL L0 = [16] := by decide +kernel
theorem al10 : findZ L0 ⟨#[100]⟩ = 3 := by decide +kernel
end Go.Proofs.Ytehcpjodkadfnaa
/- Right fields, in plain words, for the laws. -/
set_option linter.unusedSimpArgs false
set_option linter.unusedVariables false
set_option maxRecDepth 100000
namespace Go.Proofs.Ytehcpjodkadfnaa
open Go.RowKit

theorem rightF_ok {fs : List Fd} (hr : rightF fs = true) {k : Nat} {f : Fd} (hf : fs[k]? = some f) : nameB f.s = true ∧ mayB f.k f.l = true ∧ findZ fs f.s = k := by
  simp only [rightF, Bool.and_eq_true, decide_eq_true_eq] at hr
  obtain ⟨h1, h2⟩ := List.getElem?_eq_some_iff.1 hf
  have := hr.1 k h1
  rw [h2] at this
  simp only [okF, Bool.and_eq_true, decide_eq_true_eq] at this
  exact ⟨this.1.1, this.1.2, this.2⟩
theorem findZ_snoc (a : List Fd) (f : Fd) (nm : ByteArray) : decide (0 ≤ findZ (a ++ [f]) nm) = (decide (0 ≤ findZ a nm) || decide (f.s = nm)) := by
  induction a with
  | nil =>
    by_cases h : f.s = nm <;> simp [findZ, h]
  | cons g r ih =>
    rw [List.cons_append, findZ, findZ]
    by_cases h : g.s = nm
    · simp [h]
    · simp only [if_neg h]
      have hb := findZ_ge (r ++ [f]) nm
      have hb2 := findZ_ge r nm
      have e1 : decide (0 ≤ (if findZ (r ++ [f]) nm < 0 then (-1 : Int) else findZ (r ++ [f]) nm + 1)) = decide (0 ≤ findZ (r ++ [f]) nm) := by
        split <;> (rw [Bool.eq_iff_iff]; simp; omega)
      have e2 : decide (0 ≤ (if findZ r nm < 0 then (-1 : Int) else findZ r nm + 1)) = decide (0 ≤ findZ r nm) := by
        split <;> (rw [Bool.eq_iff_iff]; simp; omega)
      rw [e1, e2, ih]
end Go.Proofs.Ytehcpjodkadfnaa
/- Layer 5's laws: the test that something is alive. -/
set_option linter.unusedSimpArgs false
set_option linter.unusedVariables false
set_option maxRecDepth 100000
namespace Go.Proofs.Ytehcpjodkadfnaa
open Go.RowKit

theorem Cast_is (vk bits : Int) (tx s s2 : ByteArray) (k l k2 l2 : Int) (h0 : 0 ≤ bits) (h1 : bits < 18446744073709551616) (v : Value) (q : Int) (hv : castV vk bits tx k l k2 l2 = v) (hq : castE vk bits tx k l k2 l2 = q) (w : World) :
    Calls Try.prog 61 #[.agg #[.int .i64 vk, .int .u64 bits, .string tx], .agg #[.string s, .int .i64 k, .int .i64 l], .agg #[.string s2, .int .i64 k2, .int .i64 l2]] w fun e w' => e = .returned (.tuple #[v, .int .i64 q]) ∧ Below w.heap.size w w' := by
  subst hv hq; exact Cast_calls vk bits tx s s2 k l k2 l2 h0 h1 w
theorem Whole_is (b : Int) (h0 : 0 ≤ b) (h1 : b < 18446744073709551616) (r : Int) (h : wholeZ b.toNat = r) (w : World) :
    Calls Try.prog 74 #[.int .u64 b] w fun e w' => e = .returned (.int .i64 r) ∧ Below w.heap.size w w' := h ▸ Whole_calls b h0 h1 w

theorem alive_v : castV 5 18446744073709551615 ⟨#[]⟩ 5 0 7 0 = .agg #[.int .i64 7, .int .u64 18446744073709551615, .string ⟨#[]⟩] := by
  rw [castV, if_pos ⟨by decide, by decide⟩]; rfl
theorem alive_e : castE 5 18446744073709551615 ⟨#[]⟩ 5 0 7 0 = 0 := by decide
theorem alive_r : rightB 7 18446744073709551615 ⟨#[]⟩ 7 0 = true := by decide
theorem alive_l : encL 18446744073709551615 ⟨#[]⟩ 7 0 = [255, 255, 255, 255] := by decide
theorem alive_1 : wholeZ (13837084675114480435 : Int).toNat = -2 := by decide
theorem alive_2 : wholeZ (9094988921128908188 : Int).toNat = 9223372036854775807 := by decide

end Go.Proofs.Ytehcpjodkadfnaa
/- Layer 5's reference, fourth part: the whole of a float64. -/
set_option linter.unusedSimpArgs false
set_option linter.unusedVariables false
set_option maxRecDepth 100000
namespace Go.Proofs.Ytehcpjodkadfnaa
open Go.RowKit

theorem whole_parts (b : Int) (h0 : 0 ≤ b) (e q : Int) (he : b / 4503599627370496 % 2048 - 1075 = e) (hq : b % 4503599627370496 = q) : wholeZ b.toNat = if e = 972 ∧ q ≠ 0 then 0 else if 11 ≤ e then (if 9223372036854775808 ≤ b then -9223372036854775808 else 9223372036854775807) else if 9223372036854775808 ≤ b then -(cutN (4503599627370496 + q.toNat) e : Int) else (cutN (4503599627370496 + q.toNat) e : Int) := by
  have h1 : (fld b.toNat : Int) = e + 1075 := by unfold fld; omega
  have h2 : frc b.toNat = q.toNat := by unfold frc; omega
  have h3 : (ngB b.toNat = true) ↔ 9223372036854775808 ≤ b := by simp [ngB]; omega
  unfold wholeZ
  rw [h2, show (fld b.toNat : Int) - 1075 = e by omega]
  have c1 : (fld b.toNat = 2047 ∧ q.toNat ≠ 0) ↔ (e = 972 ∧ q ≠ 0) := by omega
  have c2 : (1086 ≤ fld b.toNat) ↔ 11 ≤ e := by omega
  simp only [c1, c2, h3]
theorem cut_up (d : Nat) (k : Nat) : cutN d (k : Int) = d * 2 ^ k := by
  unfold cutN
  rw [show (-(k : Int)).toNat = 0 by omega, Int.toNat_natCast]; simp
theorem cut_down (d : Nat) (k : Nat) : cutN d (-(k : Int)) = d / 2 ^ k := by
  unfold cutN
  rw [show (-(k : Int)).toNat = 0 by omega, show (-(-(k : Int))).toNat = k by omega]; simp
theorem pow_small {d k : Nat} (hd : d < 9007199254740992) (hk : k ≤ 10) : d * 2 ^ k < 9223372036854775808 := by
  have : 2 ^ k ≤ 2 ^ 10 := Nat.pow_le_pow_right (by decide) hk
  calc d * 2 ^ k ≤ d * 2 ^ 10 := Nat.mul_le_mul_left _ this
    _ < _ := by omega

set_option maxHeartbeats 1600000 in
theorem rWhole_calls (b : Int) (h0 : 0 ≤ b) (h1 : b < 18446744073709551616) (w : World) :
    Calls Try.prog 77 #[.int .u64 b] w fun e w' => e = .returned (.int .i64 (wholeZ b.toNat)) ∧ w = w' := by
  obtain ⟨r, hr⟩ : ∃ r, wholeZ b.toNat = r := ⟨_, rfl⟩
  rw [hr]
  go_enter Try.func77, Try.ntmps77
  go_upto_region 4 with fail
  have hp := whole_parts b h0 _ _ rfl rfl
  have he0 : -1075 ≤ b / 4503599627370496 % 2048 - 1075 ∧ b / 4503599627370496 % 2048 - 1075 ≤ 972 := by omega
  generalize b / 4503599627370496 % 2048 - 1075 = e at *
  rw [hr] at hp
  clear hr
  obtain ⟨e0, e1⟩ := he0
  obtain ⟨ng, hng⟩ : ∃ ng, decide (9223372036854775808 ≤ b) = ng := ⟨_, rfl⟩
  have hng' : (9223372036854775808 ≤ b) ↔ ng = true := by rw [← hng]; simp
  simp only [hng'] at hp
  clear hng'
  rw [hng]
  clear hng
  by_cases c1 : e = 972 ∧ b % 4503599627370496 ≠ 0
  · rw [if_pos c1] at hp
    obtain ⟨rfl, c2⟩ := c1
    have t1 : (b % 4503599627370496 != 0) = true := by simpa using c2
    subst hp
    go_wp2
    go_ret
    exact ⟨rfl, rfl⟩
  · rw [if_neg c1] at hp
    have t1 : (e == 972) = false ∨ (e = 972 ∧ (b % 4503599627370496 != 0) = false) := by
      by_cases h : e = 972
      · exact .inr ⟨h, by simpa [h] using c1⟩
      · exact .inl (by simpa using h)
    clear c1
    by_cases c2 : 11 ≤ e
    · rw [if_pos c2] at hp
      rcases t1 with t1 | ⟨rfl, t1⟩ <;> cases ng
      all_goals
        simp only [Bool.false_eq_true, if_true, if_false] at hp
        subst hp
        go_wp2
        go_ret
        exact ⟨rfl, rfl⟩
    · rw [if_neg c2] at hp
      have t1 : (e == 972) = false := by simp; omega
      have t2 : decide (11 ≤ e) = false := by simpa using c2
      by_cases c3 : e < -52
      · have hz : cutN (4503599627370496 + (b % 4503599627370496).toNat) e = 0 := by
          obtain ⟨J, hJ⟩ : ∃ J : Nat, e = -(J : Int) := ⟨(-e).toNat, by omega⟩
          rw [hJ, cut_down]
          exact Nat.div_eq_of_lt (Nat.lt_of_lt_of_le (show _ < 2 ^ 53 by omega) (Nat.pow_le_pow_right (by decide) (by omega)))
        rw [hz] at hp
        obtain rfl : r = 0 := by rw [hp]; cases ng <;> rfl
        have t3 : decide (e < -52) = true := by simpa using c3
        clear hp
        go_wp2
        go_ret
        exact ⟨rfl, rfl⟩
      · have t3 : decide (e < -52) = false := by simpa using c3
        obtain ⟨D, hD⟩ : ∃ D : Nat, b % 4503599627370496 + 4503599627370496 = D := ⟨(b % 4503599627370496 + 4503599627370496).toNat, by omega⟩
        have hD1 : D < 9007199254740992 := by omega
        rw [show 4503599627370496 + (b % 4503599627370496).toNat = D by omega] at hp
        go_upto_region 13 with fail
        try rw [hD]
        by_cases c4 : 0 ≤ e
        · obtain ⟨n, rfl⟩ : ∃ n : Nat, e = n := ⟨e.toNat, by omega⟩
          rw [cut_up] at hp
          have hn : n ≤ 10 := by omega
          go_loop [4, 6] (fun a m => ∃ k : Nat, k ≤ n ∧ a = .int .i64 ((n : Int) - k) ∧ m = .int .i64 ((D * 2 ^ k : Nat) : Int)) (fun a _ => (intOf a).toNat)
          case atStart => exact ⟨0, by omega, by simp, by simp⟩
          case round =>
            obtain ⟨k, hk, rfl, rfl⟩ := hrel
            by_cases hlt : k < n
            · have g1 : decide (0 < (n : Int) - k) = true := by simp; omega
              have g2 := pow_small hD1 (show k + 1 ≤ 10 by omega)
              rw [Nat.pow_succ, ← Nat.mul_assoc] at g2
              generalize hm : D * 2 ^ k = m at *
              go_wp2
              go_round
              case rel => exact ⟨k + 1, by omega, by go_num, by rw [Nat.pow_succ, ← Nat.mul_assoc, hm]; go_num⟩
              case measure => simp [intOf]; omega
            · obtain rfl : k = n := by omega
              have g1 : decide (0 < (k : Int) - k) = false := by simp
              have g2 := pow_small hD1 hn
              generalize D * 2 ^ k = m at *
              simp only [Int.sub_self] at g1 ⊢
              go_wp2
              go_loop [4, 6] (fun a m' => a = .int .i64 0 ∧ m' = .int .i64 (m : Int)) (fun _ _ => 0)
              case atStart => exact ⟨rfl, rfl⟩
              case round =>
                obtain ⟨rfl, rfl⟩ := hrel
                cases ng
                all_goals
                  simp only [Bool.false_eq_true, if_true, if_false] at hp
                  subst hp
                  go_wp2
                  go_ret
                  exact ⟨rfl, rfl⟩
        · obtain ⟨n, rfl⟩ : ∃ n : Nat, e = -(n : Int) := ⟨(-e).toNat, by omega⟩
          rw [cut_down] at hp
          have hn : n ≤ 52 := by omega
          have hn0 : 0 < n := by omega
          go_loop [4, 6] (fun a m' => a = .int .i64 (-(n : Int)) ∧ m' = .int .i64 (D : Int)) (fun _ _ => 0)
          case atStart => exact ⟨rfl, rfl⟩
          case round =>
            obtain ⟨rfl, rfl⟩ := hrel
            have g1 : decide (0 < -(n : Int)) = false := decide_eq_false (by omega)
            go_wp2
            go_loop [4, 6] (fun a m => ∃ k : Nat, k ≤ n ∧ a = .int .i64 (-(n : Int) + k) ∧ m = .int .i64 ((D / 2 ^ k : Nat) : Int)) (fun a _ => (-(intOf a)).toNat)
            case atStart => exact ⟨0, by omega, by simp, by simp⟩
            case round =>
              obtain ⟨k, hk, rfl, rfl⟩ := hrel
              have hm2 : D / 2 ^ k ≤ D := Nat.div_le_self _ _
              by_cases hlt : k < n
              · have g1 : decide (-(n : Int) + k < 0) = true := by simp; omega
                have hs : D / 2 ^ (k + 1) = D / 2 ^ k / 2 := by rw [Nat.pow_succ, Nat.div_div_eq_div_mul]
                generalize hm : D / 2 ^ k = m at *
                go_wp2
                go_round
                case rel => exact ⟨k + 1, by omega, by go_num, by rw [hs]; go_num⟩
                case measure => simp [intOf]; omega
              · obtain rfl : k = n := by omega
                have g1 : decide (-(k : Int) + k < 0) = false := decide_eq_false (by omega)
                generalize D / 2 ^ k = m at *
                cases ng
                all_goals
                  simp only [Bool.false_eq_true, if_true, if_false] at hp
                  subst hp
                  go_wp2
                  go_ret
                  exact ⟨rfl, rfl⟩
end Go.Proofs.Ytehcpjodkadfnaa
