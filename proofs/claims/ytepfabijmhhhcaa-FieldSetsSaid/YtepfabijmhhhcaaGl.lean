/- Layer 6 of the heap, fields, twelfth part: a field of an object is set. -/
import Derived.Test.YtepfabijmhhhcaaGk
import Derived.WalkSpells
import Derived.Laws.CopyOwn
set_option linter.unusedSimpArgs false
set_option linter.unusedVariables false
namespace Go.Proofs.Ytepfabijmhhhcaa
open Go.RowKit

set_option maxHeartbeats 1600000 in
theorem Clone_calls (A : Option Addr) (c : Nat) (b : List UInt8) (w : World) (hA : Rd w A (bytesV b)) (hl : b.length ≤ 140737488355328) :
    Calls Try.prog 46 #[.slice A b.length c] w fun e w' => ∃ v, e = .returned v ∧ w'.ownsRow w.heap.size 5 1 v b.length (bytesV b) ∧ Below w.heap.size w w' := by
  obtain ⟨i0, hi, hz0, hz1, hz2⟩ := info_parts info5
  cases A with
  | none =>
    obtain rfl : b = [] := by
      cases b with
      | nil => rfl
      | cons x r => obtain ⟨ad, e, _⟩ := hA (by simp [bytesV]); cases e
    have heq : ∀ w : World, (binOp .eql 30 (.slice none 0 c) (.slice none 0 0)).run Try.prog w = .ok (.bool true) w := fun w => Lib.run_eql_slice_nil (P := Try.prog) w 30 5 none 0 c 0 0 Try.underlying30
    go_enter Try.func46, Try.ntmps46
    go_wp2
    go_ret
    exact ⟨_, rfl, own_nil _ _ _ _, Below.refl _ _⟩
  | some ad =>
    have heq : ∀ w : World, (binOp .eql 30 (.slice (some ad) b.length c) (.slice none 0 0)).run Try.prog w = .ok (.bool false) w := fun w => Lib.run_eql_slice_nil (P := Try.prog) w 30 5 (some ad) b.length c 0 0 Try.underlying30
    have hown : (w.alloc (.cells #[] 5)).ownsRow w.heap.size 5 1 (.slice (some ⟨w.heap.size, 0, none⟩) 0 0) 0 [] := ⟨rfl, .inr ⟨_, 0, #[], rfl, Nat.le_refl _, World.alloc_heap_new _ _, Nat.le_refl _, Nat.zero_le _, rfl, rfl⟩⟩
    have hA2 := hA.below (below_new (.cells #[] 5))
    go_enter Try.func46, Try.ntmps46
    go_wp2_with (at_builtin; refine wpList_append_own _ rfl _ _ 30 rfl w.heap.size 5 i0 (.int .u8 0) 1 1 Try.underlying30 hi hz0 hz1 hz2 rfl (by decide) _ _ _ rfl hown ad b.length c (bytesV b) rfl ?c0 ?c1 ?c2 ?c3 ?c4 ?c5 ?_)
    case c0 => rw [bytesV_length]; omega
    case c1 =>
      intro j u hj
      obtain ⟨ad', e, h⟩ := hA2 (by rintro e; rw [e] at hj; simp at hj)
      cases e; exact h j u hj
    case c2 => intro u hu; simp [bytesV] at hu; obtain ⟨x, _, rfl⟩ := hu; rfl
    case c3 => simp only [maxLen]; omega
    case c4 => omega
    case c5 => simp
    intro v' w1 hown' hgrow _
    have hB := (below_new (w := w) (.cells #[] 5)).grown hgrow (by simp) (fun q hq => own_base hown q hq)
    clear hown hgrow
    go_wp2
    go_ret
    exact ⟨_, rfl, hown', hB⟩
theorem encL_length {bits : Int} {tx : ByteArray} {f : Fd} {vk : Int} (h : rightB vk bits tx f.k f.l = true) : (encL bits tx f.k f.l).length = f.n := by
  obtain ⟨hm, _, ht, _⟩ := right_may h
  unfold encL Fd.n
  split
  · rename_i hk
    rw [if_pos hk] at ht
    rw [hk] at hm ⊢
    rw [long_12 hm, bl_length]; omega
  · rw [leL_length]
/-- bytes over bytes, from a place on -/
def overB (b : List UInt8) (i : Nat) (x : List UInt8) : List UInt8 := b.take i ++ x ++ b.drop (i + x.length)
theorem overB_length {b : List UInt8} {i : Nat} {x : List UInt8} (h : i + x.length ≤ b.length) : (overB b i x).length = b.length := by simp [overB]; omega
/-- the bytes of an object of which a field was set -/
def setB (b : List UInt8) (fs : List Fd) (nm : ByteArray) (v : Vl) : List UInt8 := match locF fs b.length nm with
  | .inl _ => []
  | .inr (at_, f) => if rightB v.k v.b v.t f.k f.l = true then overB b at_ (encL v.b v.t f.k f.l) else []
def setE (b : List UInt8) (fs : List Fd) (nm : ByteArray) (v : Vl) : Int := match locF fs b.length nm with
  | .inl q => q
  | .inr (_, f) => if rightB v.k v.b v.t f.k f.l = true then 0 else 50
theorem bytesV_take (l : List UInt8) (n : Nat) : (bytesV l).take n = bytesV (l.take n) := by simp [bytesV]
theorem bytesV_drop (l : List UInt8) (n : Nat) : (bytesV l).drop n = bytesV (l.drop n) := by simp [bytesV]
theorem splice_take {cur : List Value} {b x : List UInt8} {i : Nat} (hc : cur.take b.length = bytesV b) (h : i + x.length ≤ b.length) : (splice cur i (bytesV x)).take b.length = bytesV (overB b i x) := by
  have hlen : b.length ≤ cur.length := by
    have := congrArg List.length hc
    rw [List.length_take, bytesV_length] at this; omega
  have h1 : cur.take i = bytesV (b.take i) := by rw [← bytesV_take, ← hc, List.take_take, Nat.min_eq_left (by omega)]
  have h2 : (cur.drop (i + x.length)).take (b.length - (i + x.length)) = bytesV (b.drop (i + x.length)) := by
    rw [← bytesV_drop, ← hc, List.drop_take]
  rw [splice, bytesV_length, h1, overB, bytesV_append, bytesV_append, List.append_assoc]
  rw [List.take_append, List.take_append, bytesV_length, bytesV_length, List.take_of_length_le (by rw [bytesV_length, List.length_take]; omega), List.take_of_length_le (l := bytesV x) (by rw [bytesV_length, List.length_take]; omega)]
  congr 2
  rw [← h2]
  congr 1
  rw [List.length_take]; omega
theorem sz5 : (Try.prog.info? 5).map (·.size) = some 1 := by kernel_rfl
theorem own_some {w : World} {base : Nat} {e : TypeId} {n : Nat} {v : Value} {xs : List Value} (h : w.ownsRow base e 1 v n xs) (hn : 0 < n) : ∃ g cap cur, v = .slice (some ⟨g, 0, none⟩) n cap ∧ base ≤ g ∧ OBox w g cur e ∧ n ≤ cap ∧ cap ≤ maxLen ∧ cur.length = cap ∧ cur.take n = xs := by
  obtain ⟨h1, ⟨_, h0⟩ | ⟨g, cap, cur, rfl, hg, hgb, hnc, hcm, hcs, hct⟩⟩ := h
  · omega
  · exact ⟨g, cap, cur.toList, rfl, hg, hgb, hnc, hcm, by rw [Array.length_toList, hcs]; omega, by simpa using hct⟩
set_option maxHeartbeats 4000000 in
theorem Set_bad (Ab : Option Addr) (cb : Nat) (b : List UInt8) (A : Option Addr) (c : Nat) (fs : List Fd) (nm : ByteArray) (v : Vl) (q : Int) (h : locF fs b.length nm = .inl q) (w : World) (hA : Rd w A (cellsF fs)) (hl : fs.length ≤ 9223372036854775807) :
    Calls Try.prog 27 #[.slice Ab b.length cb, .slice A fs.length c, .string nm, v.v] w fun e w' => e = .returned (.tuple #[.slice none 0 0, .int .i64 q]) ∧ Below w.heap.size w w' := by
  have hq : (q != 0) = true := by rcases loc_bad h with ⟨rfl, _⟩ | ⟨rfl, _⟩ <;> rfl
  have H := Lib.hid h
  clear h
  unfold Vl.v
  go_enter Try.func27, Try.ntmps27
  go_wp2_with (go_at_call 42; refine (place_bad Ab b.length cb A c fs nm q H.out _ (hA.below (below_new _)) hl).mono ?_; rintro e w1 ⟨rfl, hb1⟩; have HB := below_seq (below_new _) hb1; have hz1 : w.heap.size < w1.heap.size := (by have := hb1.size; simp at this; omega))
  go_ret2
  refine ⟨rfl, ?_⟩
  (repeat (first | exact HB | refine Below.setCell ?_ (by dsimp only; omega) _ | refine Below.alloc ?_ (by have hs_ := HB.size; first | (simp; done) | (simp; omega) | omega) _ | apply Below.drew))
set_option maxHeartbeats 4000000 in
theorem Set_not (Ab : Option Addr) (cb : Nat) (b : List UInt8) (A : Option Addr) (c : Nat) (fs : List Fd) (nm : ByteArray) (v : Vl) (h0 : 0 ≤ v.b) (h1 : v.b < 18446744073709551616) (at_ : Nat) (f : Fd) (h : locF fs b.length nm = .inr (at_, f)) (hr : rightB v.k v.b v.t f.k f.l = false) (w : World) (hA : Rd w A (cellsF fs)) (hl : fs.length ≤ 9223372036854775807) :
    Calls Try.prog 27 #[.slice Ab b.length cb, .slice A fs.length c, .string nm, v.v] w fun e w' => e = .returned (.tuple #[.slice none 0 0, .int .i64 50]) ∧ Below w.heap.size w w' := by
  have H := Lib.hid h
  have HR := Lib.hid hr
  clear h hr
  unfold Vl.v
  go_enter Try.func27, Try.ntmps27
  go_wp2_with (first
    | (go_at_call 42; refine (place_is Ab b.length cb A c fs nm at_ f H.out _ (hA.below (below_new _)) hl).mono ?_; rintro e w1 ⟨rfl, hb1⟩; have HB := below_seq (below_new _) hb1; have hz1 : w.heap.size < w1.heap.size := (by have := hb1.size; simp at this; omega); obtain ⟨c0, c1, c2⟩ := (VBox.new w v.k v.b v.t).below hb1)
    | (go_at_call 45; refine (Encode_none _ _ _ _ _ _ h0 h1 HR.out _).mono ?_; rintro e w2 ⟨rfl, hb2⟩; have HB := below_seq (HB.alloc (by omega) _) hb2))
  go_ret2
  refine ⟨rfl, ?_⟩
  (repeat (first | exact HB | refine Below.setCell ?_ (by dsimp only; omega) _ | refine Below.alloc ?_ (by have hs_ := HB.size; first | (simp; done) | (simp; omega) | omega) _ | apply Below.drew))
set_option maxHeartbeats 4000000 in
theorem Set_ok (Ab : Option Addr) (cb : Nat) (b : List UInt8) (A : Option Addr) (c : Nat) (fs : List Fd) (nm : ByteArray) (v : Vl) (h0 : 0 ≤ v.b) (h1 : v.b < 18446744073709551616) (at_ : Nat) (f : Fd) (h : locF fs b.length nm = .inr (at_, f)) (hr : rightB v.k v.b v.t f.k f.l = true) (w : World) (hA : Rd w A (cellsF fs)) (hl : fs.length ≤ 9223372036854775807) (hb : Rd w Ab (bytesV b)) :
    Calls Try.prog 27 #[.slice Ab b.length cb, .slice A fs.length c, .string nm, v.v] w fun e w' => ∃ x, e = .returned (.tuple #[x, .int .i64 0]) ∧ OutB w' x (overB b at_ (encL v.b v.t f.k f.l)) ∧ Below w.heap.size w w' := by
  obtain ⟨hm, hin, hlen, hn⟩ := loc_in h
  have hel := encL_length hr
  obtain ⟨xs, hxs⟩ : ∃ xs, encL v.b v.t f.k f.l = xs := ⟨_, rfl⟩
  rw [hxs] at hel ⊢
  have H := Lib.hid h
  have HR := Lib.hid hr
  have HX := Lib.hid hxs
  clear h hr hxs
  unfold Vl.v
  go_enter Try.func27, Try.ntmps27
  go_wp2_with (first
    | (go_at_call 42; refine (place_is Ab b.length cb A c fs nm at_ f H.out _ (hA.below (below_new _)) hl).mono ?_; rintro e w1 ⟨rfl, hb1⟩; have HB := below_seq (below_new _) hb1; have hz1 : w.heap.size < w1.heap.size := (by have := hb1.size; simp at this; omega); obtain ⟨c0, c1, c2⟩ := (VBox.new w v.k v.b v.t).below hb1; have hbw := (hb.below (below_new _)).below hb1)
    | (go_at_call 45; refine (Encode_some _ _ _ _ _ _ h0 h1 HR.out _).mono ?_; rintro e w2 ⟨xv, rfl, hox, hb2⟩; have HB := below_seq (HB.alloc (by omega) _) hb2; rw [HX.out] at hox; have hz2 := HB.size; have hbw := (hbw.below (below_new _)).below hb2)
    | (go_at_call 46; refine (Clone_calls Ab cb b _ hbw (by omega)).mono ?_; rintro e w3 ⟨ov, rfl, hown, hb3⟩; have HB := below_seq HB hb3; have hox := hox.below hb3; obtain ⟨XA, xc, rfl, hxc, hxr⟩ := hox; obtain ⟨g, cap, cur, rfl, hg, hO, hnc, hcm, hcs, hct⟩ := own_some hown (by omega); have s1 : (at_ : Int) ≤ (b.length : Int) := (by omega); have s2 : ¬ cap = at_ := (by omega); have s3 : ¬ b.length = at_ := (by omega); have hO' : w3.heap[g]? = some (.cells cur.toArray 5 (0, 0)) := hO; clear hO)
    | (with_reducible refine wpList_copy_splice rfl _ _ 30 30 rfl 5 Try.underlying30 sz5 (some ⟨g, at_, none⟩) XA (b.length - at_) (cap - at_) f.n xc rfl rfl g at_ cur 5 hO' (bytesV xs) ?n ?pos ?fit ?one w.heap.size w HB ?hg ?_))
  case n => rw [bytesV_length, hel]; exact (Nat.min_eq_left (by omega)).symm
  case pos =>
    intro h
    obtain ⟨ad, rfl, hc⟩ := hxr (by intro e; rw [e] at h; simp at h)
    first | exact ⟨rfl, ad, rfl, hc⟩ | exact ⟨ad, rfl, hc⟩
  case fit => rw [bytesV_length]; omega
  case one => intro u hu; simp [bytesV] at hu; obtain ⟨x, _, rfl⟩ := hu; rfl
  case hg => omega
  intro w4 hO4 hB4
  have hO4 := hO4.out
  have hr4 : Rd w4 (some ⟨g, 0, none⟩) (bytesV (overB b at_ xs)) := by
    rw [← splice_take hct (by omega)]
    refine fun _ => ⟨_, rfl, fun j u hj => ?_⟩
    have e : (⟨g, 0, none⟩ : Addr).add j = ⟨g, j, none⟩ := by unfold Addr.add; split <;> simp_all
    rw [e]
    rw [List.getElem?_take] at hj
    split at hj
    · exact OBox.cell (w := w4) hO4 hj
    · cases hj
  clear hO4
  go_wp2
  go_ret2
  exact ⟨.slice (some ⟨g, 0, none⟩) b.length cap, rfl, ⟨_, cap, by rw [overB_length (by omega)], by rw [overB_length (by omega)]; exact hnc, hr4⟩, hB4⟩
theorem Set_calls (Ab : Option Addr) (cb : Nat) (b : List UInt8) (A : Option Addr) (c : Nat) (fs : List Fd) (nm : ByteArray) (v : Vl) (h0 : 0 ≤ v.b) (h1 : v.b < 18446744073709551616) (w : World) (hA : Rd w A (cellsF fs)) (hl : fs.length ≤ 9223372036854775807) (hb : Rd w Ab (bytesV b)) :
    Calls Try.prog 27 #[.slice Ab b.length cb, .slice A fs.length c, .string nm, v.v] w fun e w' => ∃ x, e = .returned (.tuple #[x, .int .i64 (setE b fs nm v)]) ∧ OutB w' x (setB b fs nm v) ∧ Below w.heap.size w w' := by
  cases h : locF fs b.length nm with
  | inl q =>
    have e1 : setB b fs nm v = [] := by simp [setB, h]
    have e2 : setE b fs nm v = q := by simp [setE, h]
    rw [e1, e2]
    refine (Set_bad Ab cb b A c fs nm v q h w hA hl).mono ?_
    rintro e w' ⟨rfl, hb⟩
    exact ⟨_, rfl, ⟨none, 0, rfl, Nat.le_refl _, Rd.nil _ _⟩, hb⟩
  | inr x =>
    obtain ⟨at_, f⟩ := x
    cases hr : rightB v.k v.b v.t f.k f.l
    · have e1 : setB b fs nm v = [] := by simp [setB, h, hr]
      have e2 : setE b fs nm v = 50 := by simp [setE, h, hr]
      rw [e1, e2]
      refine (Set_not Ab cb b A c fs nm v h0 h1 at_ f h hr w hA hl).mono ?_
      rintro e w' ⟨rfl, hb⟩
      exact ⟨_, rfl, ⟨none, 0, rfl, Nat.le_refl _, Rd.nil _ _⟩, hb⟩
    · have e1 : setB b fs nm v = overB b at_ (encL v.b v.t f.k f.l) := by simp [setB, h, hr]
      have e2 : setE b fs nm v = 0 := by simp [setE, h, hr]
      rw [e1, e2]
      exact Set_ok Ab cb b A c fs nm v h0 h1 at_ f h hr w hA hl hb
end Go.Proofs.Ytepfabijmhhhcaa
