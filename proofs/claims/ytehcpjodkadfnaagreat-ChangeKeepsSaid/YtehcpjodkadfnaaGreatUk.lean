/- Merged out of: Gl Gm Gn Go. -/
import Derived.Test.YtehcpjodkadfnaaGreatUj
import Derived.WalkSpells
import Derived.Laws.CopyOwn
import Derived.Deep.RegionHeld3
import Derived.Deep.AppendLies
import Derived.Lib.AppendStr
/- Layer 6 of the heap, fields, twelfth part: a field of an object is set. -/
set_option linter.unusedSimpArgs false
set_option linter.unusedVariables false
set_option maxRecDepth 100000
namespace Go.Proofs.YtehcpjodkadfnaaGreat
open Go.RowKit

set_option maxHeartbeats 1600000 in
theorem Clone_calls (A : Option Addr) (c : Nat) (b : List UInt8) (w : World) (hA : Rd w A (bytesV b)) (hl : b.length ≤ 140737488355328) :
    Calls Tryz.prog 57 #[.slice A b.length c] w fun e w' => ∃ v, e = .returned v ∧ w'.ownsRow w.heap.size 5 1 v b.length (bytesV b) ∧ Below w.heap.size w w' := by
  obtain ⟨i0, hi, hz0, hz1, hz2⟩ := info_parts info5
  cases A with
  | none =>
    obtain rfl : b = [] := by
      cases b with
      | nil => rfl
      | cons x r => obtain ⟨ad, e, _⟩ := hA (by simp [bytesV]); cases e
    have heq : ∀ w : World, (binOp .eql 42 (.slice none 0 c) (.slice none 0 0)).run Tryz.prog w = .ok (.bool true) w := fun w => Lib.run_eql_slice_nil (P := Tryz.prog) w 42 5 none 0 c 0 0 Tryz.underlying42
    go_enter Tryz.func57, Tryz.ntmps57
    go_wp2
    go_ret
    exact ⟨_, rfl, own_nil _ _ _ _, Below.refl _ _⟩
  | some ad =>
    have heq : ∀ w : World, (binOp .eql 42 (.slice (some ad) b.length c) (.slice none 0 0)).run Tryz.prog w = .ok (.bool false) w := fun w => Lib.run_eql_slice_nil (P := Tryz.prog) w 42 5 (some ad) b.length c 0 0 Tryz.underlying42
    have hown : (w.alloc (.cells #[] 5)).ownsRow w.heap.size 5 1 (.slice (some ⟨w.heap.size, 0, none⟩) 0 0) 0 [] := ⟨rfl, .inr ⟨_, 0, #[], rfl, Nat.le_refl _, World.alloc_heap_new _ _, Nat.le_refl _, Nat.zero_le _, rfl, rfl⟩⟩
    have hA2 := hA.below (below_new (.cells #[] 5))
    go_enter Tryz.func57, Tryz.ntmps57
    go_wp2_with (at_builtin; refine wpList_append_own _ rfl _ _ 42 rfl w.heap.size 5 i0 (.int .u8 0) 1 1 Tryz.underlying42 hi hz0 hz1 hz2 rfl (by decide) _ _ _ rfl hown ad b.length c (bytesV b) rfl ?c0 ?c1 ?c2 ?c3 ?c4 ?c5 ?_)
    case c0 => rw [bytesV_length]; omega
    case c1 =>
      intro j u hj
      obtain ⟨ad', e, h⟩ := hA2 (by rintro e; rw [e] at hj; simp at hj)
      cases e; exact h j u hj
    case c2 => intro u hu; simp [bytesV] at hu; obtain ⟨x, _, rfl⟩ := hu; rfl
    case c3 => simp only [maxLen]; omega
    case c4 => omega
    case c5 => simp
    intro v' w1 hown' hgrow _
    have hB := (below_new (w := w) (.cells #[] 5)).grown hgrow (by simp) (fun q hq => own_base hown q hq)
    clear hown hgrow
    go_wp2
    go_ret
    exact ⟨_, rfl, hown', hB⟩
theorem encL_length {bits : Int} {tx : ByteArray} {f : Fd} {vk : Int} (h : rightB vk bits tx f.k f.l = true) : (encL bits tx f.k f.l).length = f.n := by
  obtain ⟨hm, _, ht, _⟩ := right_may h
  unfold encL Fd.n
  split
  · rename_i hk
    rw [if_pos hk] at ht
    rw [hk] at hm ⊢
    rw [long_12 hm, bl_length]; omega
  · rw [leL_length]
/-- bytes over bytes, from a place on -/
def overB (b : List UInt8) (i : Nat) (x : List UInt8) : List UInt8 := b.take i ++ x ++ b.drop (i + x.length)
theorem overB_length {b : List UInt8} {i : Nat} {x : List UInt8} (h : i + x.length ≤ b.length) : (overB b i x).length = b.length := by simp [overB]; omega
/-- the bytes of an object of which a field was set -/
def setB (b : List UInt8) (fs : List Fd) (nm : ByteArray) (v : Vl) : List UInt8 := match locF fs b.length nm with
  | .inl _ => []
  | .inr (at_, f) => if rightB v.k v.b v.t f.k f.l = true then overB b at_ (encL v.b v.t f.k f.l) else []
def setE (b : List UInt8) (fs : List Fd) (nm : ByteArray) (v : Vl) : Int := match locF fs b.length nm with
  | .inl q => q
  | .inr (_, f) => if rightB v.k v.b v.t f.k f.l = true then 0 else 50
theorem bytesV_take (l : List UInt8) (n : Nat) : (bytesV l).take n = bytesV (l.take n) := by simp [bytesV]
theorem bytesV_drop (l : List UInt8) (n : Nat) : (bytesV l).drop n = bytesV (l.drop n) := by simp [bytesV]
theorem splice_take {cur : List Value} {b x : List UInt8} {i : Nat} (hc : cur.take b.length = bytesV b) (h : i + x.length ≤ b.length) : (splice cur i (bytesV x)).take b.length = bytesV (overB b i x) := by
  have hlen : b.length ≤ cur.length := by
    have := congrArg List.length hc
    rw [List.length_take, bytesV_length] at this; omega
  have h1 : cur.take i = bytesV (b.take i) := by rw [← bytesV_take, ← hc, List.take_take, Nat.min_eq_left (by omega)]
  have h2 : (cur.drop (i + x.length)).take (b.length - (i + x.length)) = bytesV (b.drop (i + x.length)) := by
    rw [← bytesV_drop, ← hc, List.drop_take]
  rw [splice, bytesV_length, h1, overB, bytesV_append, bytesV_append, List.append_assoc]
  rw [List.take_append, List.take_append, bytesV_length, bytesV_length, List.take_of_length_le (by rw [bytesV_length, List.length_take]; omega), List.take_of_length_le (l := bytesV x) (by rw [bytesV_length, List.length_take]; omega)]
  congr 2
  rw [← h2]
  congr 1
  rw [List.length_take]; omega
theorem sz5 : (Tryz.prog.info? 5).map (·.size) = some 1 := by kernel_rfl
theorem own_some {w : World} {base : Nat} {e : TypeId} {n : Nat} {v : Value} {xs : List Value} (h : w.ownsRow base e 1 v n xs) (hn : 0 < n) : ∃ g cap cur, v = .slice (some ⟨g, 0, none⟩) n cap ∧ base ≤ g ∧ OBox w g cur e ∧ n ≤ cap ∧ cap ≤ maxLen ∧ cur.length = cap ∧ cur.take n = xs := by
  obtain ⟨h1, ⟨_, h0⟩ | ⟨g, cap, cur, rfl, hg, hgb, hnc, hcm, hcs, hct⟩⟩ := h
  · omega
  · exact ⟨g, cap, cur.toList, rfl, hg, hgb, hnc, hcm, by rw [Array.length_toList, hcs]; omega, by simpa using hct⟩
set_option maxHeartbeats 4000000 in
theorem Set_bad (Ab : Option Addr) (cb : Nat) (b : List UInt8) (A : Option Addr) (c : Nat) (fs : List Fd) (nm : ByteArray) (v : Vl) (q : Int) (h : locF fs b.length nm = .inl q) (w : World) (hA : Rd w A (cellsF fs)) (hl : fs.length ≤ 9223372036854775807) :
    Calls Tryz.prog 28 #[.slice Ab b.length cb, .slice A fs.length c, .string nm, v.v] w fun e w' => e = .returned (.tuple #[.slice none 0 0, .int .i64 q]) ∧ Below w.heap.size w w' := by
  have hq : (q != 0) = true := by rcases loc_bad h with ⟨rfl, _⟩ | ⟨rfl, _⟩ <;> rfl
  have H := Lib.hid h
  clear h
  unfold Vl.v
  go_enter Tryz.func28, Tryz.ntmps28
  go_wp2_with (go_at_call 31; refine (place_bad Ab b.length cb A c fs nm q H.out _ (hA.below (below_new _)) hl).mono ?_; rintro e w1 ⟨rfl, hb1⟩; have HB := below_seq (below_new _) hb1; have hz1 : w.heap.size < w1.heap.size := (by have := hb1.size; simp at this; omega))
  go_ret2
  refine ⟨rfl, ?_⟩
  (repeat (first | exact HB | refine Below.setCell ?_ (by dsimp only; omega) _ | refine Below.alloc ?_ (by have hs_ := HB.size; first | (simp; done) | (simp; omega) | omega) _ | apply Below.drew))
set_option maxHeartbeats 4000000 in
theorem Set_not (Ab : Option Addr) (cb : Nat) (b : List UInt8) (A : Option Addr) (c : Nat) (fs : List Fd) (nm : ByteArray) (v : Vl) (h0 : 0 ≤ v.b) (h1 : v.b < 18446744073709551616) (at_ : Nat) (f : Fd) (h : locF fs b.length nm = .inr (at_, f)) (hr : rightB v.k v.b v.t f.k f.l = false) (w : World) (hA : Rd w A (cellsF fs)) (hl : fs.length ≤ 9223372036854775807) :
    Calls Tryz.prog 28 #[.slice Ab b.length cb, .slice A fs.length c, .string nm, v.v] w fun e w' => e = .returned (.tuple #[.slice none 0 0, .int .i64 50]) ∧ Below w.heap.size w w' := by
  have H := Lib.hid h
  have HR := Lib.hid hr
  clear h hr
  unfold Vl.v
  go_enter Tryz.func28, Tryz.ntmps28
  go_wp2_with (first
    | (go_at_call 31; refine (place_is Ab b.length cb A c fs nm at_ f H.out _ (hA.below (below_new _)) hl).mono ?_; rintro e w1 ⟨rfl, hb1⟩; have HB := below_seq (below_new _) hb1; have hz1 : w.heap.size < w1.heap.size := (by have := hb1.size; simp at this; omega); obtain ⟨c0, c1, c2⟩ := (VBox.new w v.k v.b v.t).below hb1)
    | (go_at_call 56; refine (Encode_none _ _ _ _ _ _ h0 h1 HR.out _).mono ?_; rintro e w2 ⟨rfl, hb2⟩; have HB := below_seq (HB.alloc (by omega) _) hb2))
  go_ret2
  refine ⟨rfl, ?_⟩
  (repeat (first | exact HB | refine Below.setCell ?_ (by dsimp only; omega) _ | refine Below.alloc ?_ (by have hs_ := HB.size; first | (simp; done) | (simp; omega) | omega) _ | apply Below.drew))
set_option maxHeartbeats 4000000 in
theorem Set_ok (Ab : Option Addr) (cb : Nat) (b : List UInt8) (A : Option Addr) (c : Nat) (fs : List Fd) (nm : ByteArray) (v : Vl) (h0 : 0 ≤ v.b) (h1 : v.b < 18446744073709551616) (at_ : Nat) (f : Fd) (h : locF fs b.length nm = .inr (at_, f)) (hr : rightB v.k v.b v.t f.k f.l = true) (w : World) (hA : Rd w A (cellsF fs)) (hl : fs.length ≤ 9223372036854775807) (hb : Rd w Ab (bytesV b)) :
    Calls Tryz.prog 28 #[.slice Ab b.length cb, .slice A fs.length c, .string nm, v.v] w fun e w' => ∃ x, e = .returned (.tuple #[x, .int .i64 0]) ∧ OutB w' x (overB b at_ (encL v.b v.t f.k f.l)) ∧ Below w.heap.size w w' := by
  obtain ⟨hm, hin, hlen, hn⟩ := loc_in h
  have hel := encL_length hr
  obtain ⟨xs, hxs⟩ : ∃ xs, encL v.b v.t f.k f.l = xs := ⟨_, rfl⟩
  rw [hxs] at hel ⊢
  have H := Lib.hid h
  have HR := Lib.hid hr
  have HX := Lib.hid hxs
  clear h hr hxs
  unfold Vl.v
  go_enter Tryz.func28, Tryz.ntmps28
  go_wp2_with (first
    | (go_at_call 31; refine (place_is Ab b.length cb A c fs nm at_ f H.out _ (hA.below (below_new _)) hl).mono ?_; rintro e w1 ⟨rfl, hb1⟩; have HB := below_seq (below_new _) hb1; have hz1 : w.heap.size < w1.heap.size := (by have := hb1.size; simp at this; omega); obtain ⟨c0, c1, c2⟩ := (VBox.new w v.k v.b v.t).below hb1; have hbw := (hb.below (below_new _)).below hb1)
    | (go_at_call 56; refine (Encode_some _ _ _ _ _ _ h0 h1 HR.out _).mono ?_; rintro e w2 ⟨xv, rfl, hox, hb2⟩; have HB := below_seq (HB.alloc (by omega) _) hb2; rw [HX.out] at hox; have hz2 := HB.size; have hbw := (hbw.below (below_new _)).below hb2)
    | (go_at_call 57; refine (Clone_calls Ab cb b _ hbw (by omega)).mono ?_; rintro e w3 ⟨ov, rfl, hown, hb3⟩; have HB := below_seq HB hb3; have hox := hox.below hb3; obtain ⟨XA, xc, rfl, hxc, hxr⟩ := hox; obtain ⟨g, cap, cur, rfl, hg, hO, hnc, hcm, hcs, hct⟩ := own_some hown (by omega); have s1 : (at_ : Int) ≤ (b.length : Int) := (by omega); have s2 : ¬ cap = at_ := (by omega); have s3 : ¬ b.length = at_ := (by omega); have hO' : w3.heap[g]? = some (.cells cur.toArray 5 (0, 0)) := hO; clear hO)
    | (with_reducible refine wpList_copy_splice rfl _ _ 42 42 rfl 5 Tryz.underlying42 sz5 (some ⟨g, at_, none⟩) XA (b.length - at_) (cap - at_) f.n xc rfl rfl g at_ cur 5 hO' (bytesV xs) ?n ?pos ?fit ?one w.heap.size w HB ?hg ?_))
  case n => rw [bytesV_length, hel]; exact (Nat.min_eq_left (by omega)).symm
  case pos =>
    intro h
    obtain ⟨ad, rfl, hc⟩ := hxr (by intro e; rw [e] at h; simp at h)
    first | exact ⟨rfl, ad, rfl, hc⟩ | exact ⟨ad, rfl, hc⟩
  case fit => rw [bytesV_length]; omega
  case one => intro u hu; simp [bytesV] at hu; obtain ⟨x, _, rfl⟩ := hu; rfl
  case hg => omega
  intro w4 hO4 hB4
  have hO4 := hO4.out
  have hr4 : Rd w4 (some ⟨g, 0, none⟩) (bytesV (overB b at_ xs)) := by
    rw [← splice_take hct (by omega)]
    refine fun _ => ⟨_, rfl, fun j u hj => ?_⟩
    have e : (⟨g, 0, none⟩ : Addr).add j = ⟨g, j, none⟩ := by unfold Addr.add; split <;> simp_all
    rw [e]
    rw [List.getElem?_take] at hj
    split at hj
    · exact OBox.cell (w := w4) hO4 hj
    · cases hj
  clear hO4
  go_wp2
  go_ret2
  exact ⟨.slice (some ⟨g, 0, none⟩) b.length cap, rfl, ⟨_, cap, by rw [overB_length (by omega)], by rw [overB_length (by omega)]; exact hnc, hr4⟩, hB4⟩
theorem Set_calls (Ab : Option Addr) (cb : Nat) (b : List UInt8) (A : Option Addr) (c : Nat) (fs : List Fd) (nm : ByteArray) (v : Vl) (h0 : 0 ≤ v.b) (h1 : v.b < 18446744073709551616) (w : World) (hA : Rd w A (cellsF fs)) (hl : fs.length ≤ 9223372036854775807) (hb : Rd w Ab (bytesV b)) :
    Calls Tryz.prog 28 #[.slice Ab b.length cb, .slice A fs.length c, .string nm, v.v] w fun e w' => ∃ x, e = .returned (.tuple #[x, .int .i64 (setE b fs nm v)]) ∧ OutB w' x (setB b fs nm v) ∧ Below w.heap.size w w' := by
  cases h : locF fs b.length nm with
  | inl q =>
    have e1 : setB b fs nm v = [] := by simp [setB, h]
    have e2 : setE b fs nm v = q := by simp [setE, h]
    rw [e1, e2]
    refine (Set_bad Ab cb b A c fs nm v q h w hA hl).mono ?_
    rintro e w' ⟨rfl, hb⟩
    exact ⟨_, rfl, ⟨none, 0, rfl, Nat.le_refl _, Rd.nil _ _⟩, hb⟩
  | inr x =>
    obtain ⟨at_, f⟩ := x
    cases hr : rightB v.k v.b v.t f.k f.l
    · have e1 : setB b fs nm v = [] := by simp [setB, h, hr]
      have e2 : setE b fs nm v = 50 := by simp [setE, h, hr]
      rw [e1, e2]
      refine (Set_not Ab cb b A c fs nm v h0 h1 at_ f h hr w hA hl).mono ?_
      rintro e w' ⟨rfl, hb⟩
      exact ⟨_, rfl, ⟨none, 0, rfl, Nat.le_refl _, Rd.nil _ _⟩, hb⟩
    · have e1 : setB b fs nm v = overB b at_ (encL v.b v.t f.k f.l) := by simp [setB, h, hr]
      have e2 : setE b fs nm v = 0 := by simp [setE, h, hr]
      rw [e1, e2]
      exact Set_ok Ab cb b A c fs nm v h0 h1 at_ f h hr w hA hl hb
end Go.Proofs.YtehcpjodkadfnaaGreat
/- Layer 6 of the heap, fields, thirteenth part: fields are written. -/
set_option linter.unusedSimpArgs false
set_option linter.unusedVariables false
set_option maxRecDepth 100000
namespace Go.Proofs.YtehcpjodkadfnaaGreat
open Go.RowKit

/-- a field, written -/
def rowF (f : Fd) : List UInt8 := UInt8.ofNat f.s.size :: (bl f.s ++ [UInt8.ofNat f.k.toNat, UInt8.ofNat f.l.toNat])
def encFL (fs : List Fd) : List UInt8 := UInt8.ofNat fs.length :: fs.flatMap rowF
theorem rowF_length (f : Fd) : (rowF f).length = f.s.size + 3 := by simp [rowF, bl_length]
theorem flat_length (fs : List Fd) (h : ∀ f ∈ fs, f.s.size ≤ 15) : (fs.flatMap rowF).length ≤ 18 * fs.length := by
  induction fs with
  | nil => simp
  | cons f r ih =>
    have h1 := h f (List.mem_cons_self ..)
    have h2 := ih fun g hg => h g (List.mem_cons_of_mem _ hg)
    rw [List.flatMap_cons, List.length_append, rowF_length, List.length_cons]; omega
theorem name_size {s : ByteArray} (h : nameB s = true) : 1 ≤ s.size ∧ s.size ≤ 15 := by
  simp only [nameB, Bool.and_eq_true, decide_eq_true_eq] at h
  exact h.2
theorem rightF_name {fs : List Fd} (h : rightF fs = true) {f : Fd} (hf : f ∈ fs) : nameB f.s = true := by
  simp only [rightF, Bool.and_eq_true, decide_eq_true_eq] at h
  obtain ⟨i, hi, rfl⟩ := List.getElem_of_mem hf
  have := h.1 i hi
  simp only [okF, Bool.and_eq_true] at this
  exact this.1.1
theorem may_small {k l : Int} (h : mayB k l = true) : 0 ≤ k ∧ k ≤ 12 ∧ 0 ≤ l ∧ l ≤ 64 := by
  by_cases hk : k = 12
  · subst hk
    have := btw_iff.1 (mayB_12 ▸ h)
    omega
  · obtain ⟨h1, h2⟩ := mayB_of h hk
    have := (size_pos k).1 h2
    omega
theorem step_append_str {P : Program} {w : World} {ops : Array Oper} {o : Oper} {a : Act} {K : Act → World → Prop} {Q : Exit → Act → World → Prop} {E : Prop} (hgd : o.guard = none) (sl x : Operand) (t u : TypeId)
    (ho : o.op = .call { callee := .builtin .append, args := #[sl, x], argTypes := #[t, u] })
    (base : Nat) (e : TypeId) (i : TypeInfo) (ht : P.underlying t = some (.slice e)) (hu : P.underlying u = some .string) (hi : P.info? e = some i) (hz : i.zero = some (.int .u8 0))
    (hsize : i.size = 1) (hby : i.bytes = 1)
    (v : Value) (n : Nat) (xs : List Value) (hs : a.eval sl = v) (hown : w.ownsRow base e 1 v n xs) (s : ByteArray) (hx : a.eval x = .string s)
    (h63 : n + s.size ≤ maxLen) (hbytes : n + s.size ≤ 140737488355328) (hbase : base ≤ w.heap.size)
    (h : ∀ v' w', w'.ownsRow base e 1 v' (n + s.size) (xs ++ Lib.strCells s) → w.grownBy w' v.ownBlock → K (a.put o.dst v') w') :
    if Region.wanted o (yielded ops a.tmps) = true then Oper.wp P o a w K Q else E := by
  have hw : Region.wanted o (yielded ops a.tmps) = true := by simp [Region.wanted, hgd]
  rw [if_pos hw]
  obtain ⟨v', w', hr, h2, h3, h4⟩ := Lib.run_append_own_string (P := P) w base t u o.type e i ht hu hi hz hsize hby v n xs hown s h63 hbytes hbase
  unfold Oper.wp execOp
  simp only [ho, resolve, invoke, builtin, Sem.run_bind, Sem.run_pure, Result.andThen_ok, List.map_toArray, List.map_cons, List.map_nil, hs, hx, hr]
  exact h v' w' h2 h3
/-- what was written when some fields are -/
def partF (fs : List Fd) (k : Nat) : List UInt8 := UInt8.ofNat fs.length :: (fs.take k).flatMap rowF
theorem partF_succ {fs : List Fd} {k : Nat} {f : Fd} (hf : fs[k]? = some f) : partF fs (k + 1) = partF fs k ++ rowF f := by
  unfold partF
  rw [List.take_add_one, hf]
  simp
theorem OwnB_len {w : World} {base n : Nat} {v : Value} {l : List UInt8} (h : w.ownsRow base 5 1 v n (bytesV l)) : n = l.length := by
  have := h.1; rw [bytesV_length] at this; omega
theorem own_lt {w : World} {base : Nat} {e : TypeId} {size n : Nat} {v : Value} {xs : List Value} (h : w.ownsRow base e size v n xs) (k : Nat) (hk : v.ownBlock = some k) : k < w.heap.size := by
  rcases h.2 with ⟨rfl, _⟩ | ⟨g, cap, cur, rfl, hb, hg, _⟩
  · simp [Value.ownBlock] at hk
  · have : g = k := by simpa [Value.ownBlock] using hk
    subst this
    exact (Array.getElem?_eq_some_iff.1 hg).1
theorem own_eq {w : World} {base : Nat} {e : TypeId} {size n m : Nat} {v : Value} {xs ys : List Value} (h : w.ownsRow base e size v n xs) (hn : n = m) (hx : xs = ys) : w.ownsRow base e size v m ys := by subst hn hx; exact h
theorem ne_of_at {b g n : Nat} {o : Option Nat} (h : some b ≠ o) (hat : o = some g ∨ g = n + 1) (hb : b < n) : some b ≠ some g := fun e => by
  cases e
  rcases hat with h1 | h1
  · exact h h1.symm
  · omega
theorem news2 (w : World) (u v : Value) (T : TypeId) : ∀ j x, [u, v][j]? = some x → (w.alloc (.cells #[u, v] T)).cell? ((⟨w.heap.size, 0, none⟩ : Addr).add j) = some x := by
  intro j x hj
  match j with
  | 0 => simp at hj; subst hj; exact cell_new w _ T 0 u rfl
  | 1 => simp at hj; subst hj; exact cell_new w _ T 1 v rfl
  | j + 2 => simp at hj
/-- what is written, and what is amiss -/
def wrL (fs : List Fd) : List UInt8 := if rightF fs = true then encFL fs else []
def wrE (fs : List Fd) : Int := if rightF fs = true then 0 else 60
end Go.Proofs.YtehcpjodkadfnaaGreat
/- Layer 6 of the heap, fields, fourteenth part: bytes that are fields, read; in plain lists. -/
set_option linter.unusedSimpArgs false
set_option linter.unusedVariables false
set_option maxRecDepth 100000
namespace Go.Proofs.YtehcpjodkadfnaaGreat
open Go.RowKit

/-- a field that bytes can hold -/
def wfF (f : Fd) : Prop := f.s.size < 256 ∧ 0 ≤ f.k ∧ f.k < 256 ∧ 0 ≤ f.l ∧ f.l < 256
/-- one field, and what is left -/
def stepF : List UInt8 → Option (Fd × List UInt8)
  | [] => none
  | n :: q => if n.toNat + 2 ≤ q.length then some (⟨strL (q.take n.toNat), (q.getD n.toNat 0).toNat, (q.getD (n.toNat + 1) 0).toNat⟩, q.drop (n.toNat + 2)) else none
/-- so many fields, and what is left -/
def rdF : List UInt8 → Nat → Option (List Fd × List UInt8)
  | r, 0 => some ([], r)
  | r, k + 1 => match stepF r with
    | none => none
    | some (f, r') => (rdF r' k).map fun x => (f :: x.1, x.2)
theorem u8_nat {n : Nat} (h : n < 256) : (UInt8.ofNat n).toNat = n := by simp; omega
theorem u8_of (x : UInt8) : UInt8.ofNat x.toNat = x := by simp
theorem step_row {f : Fd} (h : wfF f) (r : List UInt8) : stepF (rowF f ++ r) = some (f, r) := by
  obtain ⟨h1, h2, h3, h4, h5⟩ := h
  have e : rowF f ++ r = UInt8.ofNat f.s.size :: (bl f.s ++ ([UInt8.ofNat f.k.toNat, UInt8.ofNat f.l.toNat] ++ r)) := by simp [rowF]
  have hbl := bl_length f.s
  rw [e, stepF, u8_nat h1]
  rw [if_pos (by simp [hbl])]
  have t1 : (bl f.s ++ ([UInt8.ofNat f.k.toNat, UInt8.ofNat f.l.toNat] ++ r)).take f.s.size = bl f.s := by rw [← hbl]; exact List.take_left
  have t2 : (bl f.s ++ ([UInt8.ofNat f.k.toNat, UInt8.ofNat f.l.toNat] ++ r)).drop (f.s.size + 2) = r := by
    rw [List.drop_append, hbl, List.drop_of_length_le (by omega)]
    rw [show f.s.size + 2 - f.s.size = 2 by omega]
    rfl
  have t3 : (bl f.s ++ ([UInt8.ofNat f.k.toNat, UInt8.ofNat f.l.toNat] ++ r)).getD f.s.size 0 = UInt8.ofNat f.k.toNat := by
    rw [List.getD_eq_getElem?_getD, List.getElem?_append_right (by omega), hbl]; simp
  have t4 : (bl f.s ++ ([UInt8.ofNat f.k.toNat, UInt8.ofNat f.l.toNat] ++ r)).getD (f.s.size + 1) 0 = UInt8.ofNat f.l.toNat := by
    rw [List.getD_eq_getElem?_getD, List.getElem?_append_right (by omega), hbl]; simp
  rw [t1, t2, t3, t4, strL_bl, u8_nat (by omega), u8_nat (by omega)]
  have e1 : ((f.k.toNat : Nat) : Int) = f.k := by omega
  have e2 : ((f.l.toNat : Nat) : Int) = f.l := by omega
  rw [e1, e2]
theorem row_step {r r' : List UInt8} {f : Fd} (h : stepF r = some (f, r')) : r = rowF f ++ r' ∧ wfF f := by
  cases r with
  | nil => simp [stepF] at h
  | cons n q =>
    rw [stepF] at h
    split at h
    · rename_i hn
      cases h
      have hn1 := n.toNat_lt
      have hsz : (strL (q.take n.toNat)).size = n.toNat := by rw [strL_size, List.length_take]; omega
      have hb1 := (q.getD n.toNat 0).toNat_lt
      have hb2 := (q.getD (n.toNat + 1) 0).toNat_lt
      refine ⟨?_, ?_⟩
      · simp only [rowF]
        rw [hsz, bl_strL, u8_of, Int.toNat_natCast, Int.toNat_natCast, u8_of, u8_of]
        have e : q = q.take n.toNat ++ (q.getD n.toNat 0 :: q.getD (n.toNat + 1) 0 :: q.drop (n.toNat + 2)) := by
          conv => lhs; rw [← List.take_append_drop n.toNat q]
          congr 1
          have l1 : n.toNat < q.length := by omega
          have l2 : n.toNat + 1 < q.length := by omega
          rw [List.getD_eq_getElem?_getD, List.getD_eq_getElem?_getD, List.getElem?_eq_getElem l1, List.getElem?_eq_getElem l2, List.drop_eq_getElem_cons l1, List.drop_eq_getElem_cons l2]
          rfl
        conv => lhs; rw [e]
        simp
      · refine ⟨by rw [hsz]; omega, ?_, ?_, ?_, ?_⟩ <;> dsimp only <;> omega
    · cases h
theorem rdF_flat {l : List Fd} (h : ∀ f ∈ l, wfF f) (r : List UInt8) {k : Nat} (hk : k ≤ l.length) : rdF (l.flatMap rowF ++ r) k = some (l.take k, (l.drop k).flatMap rowF ++ r) := by
  induction k generalizing l with
  | zero => simp [rdF]
  | succ k ih =>
    cases l with
    | nil => simp at hk
    | cons f t =>
      rw [List.flatMap_cons, List.append_assoc, rdF, step_row (h f (List.mem_cons_self ..))]
      simp only []
      rw [ih (fun g hg => h g (List.mem_cons_of_mem _ hg)) (by simpa using hk)]
      simp
theorem flat_rdF {r r' : List UInt8} {k : Nat} {l : List Fd} (h : rdF r k = some (l, r')) : r = l.flatMap rowF ++ r' ∧ l.length = k ∧ ∀ f ∈ l, wfF f := by
  induction k generalizing r l with
  | zero =>
    simp [rdF] at h
    obtain ⟨rfl, rfl⟩ := h
    simp
  | succ k ih =>
    rw [rdF] at h
    split at h
    · cases h
    · rename_i f q hq
      obtain ⟨rfl, hf⟩ := row_step hq
      cases hr : rdF q k with
      | none => rw [hr] at h; simp at h
      | some x =>
        obtain ⟨t, q'⟩ := x
        rw [hr] at h
        simp at h
        obtain ⟨rfl, rfl⟩ := h
        obtain ⟨rfl, h2, h3⟩ := ih hr
        refine ⟨by simp, by simp [h2], fun g hg => ?_⟩
        rcases List.mem_cons.1 hg with rfl | hg
        · exact hf
        · exact h3 g hg
/-- the fields that bytes are, if they are any -/
def decL : List UInt8 → Option (List Fd)
  | [] => none
  | c :: q => match rdF q c.toNat with
    | some (l, []) => if rightF l = true then some l else none
    | _ => none
theorem rightF_wf {l : List Fd} (h : rightF l = true) : ∀ f ∈ l, wfF f := fun f hf => by
  obtain ⟨h1, h2⟩ := name_size (rightF_name h hf)
  obtain ⟨h3, h4, h5, h6⟩ := may_small ((rightF_may h).1 f hf)
  unfold wfF; omega
theorem decL_iff (b : List UInt8) (l : List Fd) : decL b = some l ↔ rightF l = true ∧ encFL l = b := by
  constructor
  · intro h
    cases b with
    | nil => cases h
    | cons c q =>
      rw [decL] at h
      split at h
      · rename_i l' hl
        split at h
        · rename_i hr
          cases h
          obtain ⟨h1, h2, h3⟩ := flat_rdF hl
          refine ⟨hr, ?_⟩
          rw [encFL, h2, u8_of, h1, List.append_nil]
        · cases h
      · cases h
  · rintro ⟨hr, rfl⟩
    have h16 := (rightF_may hr).2
    have := rdF_flat (rightF_wf hr) [] (Nat.le_refl l.length)
    rw [List.append_nil, List.take_length, List.drop_length] at this
    rw [encFL, decL, u8_nat (by omega), this]
    simp [hr]
theorem decL_enc {l : List Fd} (h : rightF l = true) : decL (encFL l) = some l := (decL_iff _ _).2 ⟨h, rfl⟩
/-- what was read so far is what is there, if anything is -/
theorem decL_part {c : UInt8} {l0 l : List Fd} {r : List UInt8} (hw : ∀ f ∈ l0, wfF f) (hl : l0.length ≤ c.toNat) (h : decL (c :: (l0.flatMap rowF ++ r)) = some l) : l.length = c.toNat ∧ l0 = l.take l0.length ∧ r = (l.drop l0.length).flatMap rowF ∧ rightF l = true := by
  obtain ⟨hr, he⟩ := (decL_iff _ _).1 h
  have h16 := (rightF_may hr).2
  rw [encFL] at he
  injection he with he1 he2
  have hc : l.length = c.toNat := by rw [← he1, u8_nat (by omega)]
  have e1 := rdF_flat hw r (Nat.le_refl l0.length)
  rw [List.take_length, List.drop_length] at e1
  have e2 := rdF_flat (rightF_wf hr) [] (k := l0.length) (by omega)
  rw [List.append_nil, he2, e1] at e2
  simp at e2
  exact ⟨hc, e2.1, e2.2, hr⟩
end Go.Proofs.YtehcpjodkadfnaaGreat
/- Layer 6 of the heap, fields, fifteenth part: fields are read. -/
set_option linter.unusedSimpArgs false
set_option linter.unusedVariables false
set_option maxRecDepth 100000
namespace Go.Proofs.YtehcpjodkadfnaaGreat
open Go.RowKit

theorem Get1_in (A : Option Addr) (m c : Nat) (b : List UInt8) (hm : b.length = m) (at_ : Int) (p : Nat) (hp : at_ = p) (x : UInt8) (hx : b[p]? = some x) (w : World) (hA : Rd w A (bytesV b)) (hl : m ≤ 9223372036854775807) :
    Calls Tryz.prog 59 #[.slice A m c, .int .i64 at_, .int .i64 1] w fun e w' => e = .returned (.tuple #[.int .u64 (x.toNat : Int), .bool true]) ∧ Below w.heap.size w w' := by
  subst hm hp
  obtain ⟨h1, h2⟩ := List.getElem?_eq_some_iff.1 hx
  have := Get_some A c b p 1 w hA (by omega) (by decide) (by omega) hl
  have e : (b.drop p).take 1 = [x] := by rw [List.drop_eq_getElem_cons h1, h2]; rfl
  rw [e] at this
  simpa [numL, numN] using this
theorem Get1_out (A : Option Addr) (m c : Nat) (at_ : Int) (h : (m : Int) ≤ at_) (w : World) (hl : m ≤ 9223372036854775807) :
    Calls Tryz.prog 59 #[.slice A m c, .int .i64 at_, .int .i64 1] w fun e w' => e = .returned (.tuple #[.int .u64 0, .bool false]) ∧ Below w.heap.size w w' :=
  Get_none A m c at_ 1 w hl (.inr (by simp [insB]; omega))
theorem infoFd : (Tryz.prog.info? 29).map (fun i => (i.zero, i.size, i.bytes)) = some (some (.agg #[.string ⟨#[]⟩, .int .i64 0, .int .i64 0]), 3, 32) := by kernel_rfl
theorem cellsF_append (a b : List Fd) : cellsF (a ++ b) = cellsF a ++ cellsF b := by simp [cellsF]
def ReadF (b : List UInt8) (e : Ending) (w w' : World) : Prop :=
  (∃ l v, decL b = some l ∧ e = .returned (.tuple #[v, .int .i64 0]) ∧ w'.ownsRow w.heap.size 29 3 v l.length (cellsF l)) ∨ (decL b = none ∧ e = .returned (.tuple #[.slice none 0 0, .int .i64 60]))
theorem decL_stop {c : UInt8} {l0 : List Fd} {r : List UInt8} (hw : ∀ f ∈ l0, wfF f) (hl : l0.length < c.toNat) (hs : stepF r = none) : decL (c :: (l0.flatMap rowF ++ r)) = none := by
  cases hd : decL (c :: (l0.flatMap rowF ++ r)) with
  | none => rfl
  | some l =>
    obtain ⟨h1, h2, h3, h4⟩ := decL_part hw (by omega) hd
    cases hdl : l.drop l0.length with
    | nil => have := congrArg List.length hdl; simp at this; omega
    | cons f t =>
      rw [h3, hdl, List.flatMap_cons, step_row (rightF_wf h4 f (List.mem_of_mem_drop (by rw [hdl]; exact List.mem_cons_self ..)))] at hs
      cases hs
theorem decL_end {c : UInt8} {l0 : List Fd} {r : List UInt8} (hw : ∀ f ∈ l0, wfF f) (hl : l0.length = c.toNat) : decL (c :: (l0.flatMap rowF ++ r)) = if r = [] ∧ rightF l0 = true then some l0 else none := by
  have := rdF_flat hw r (Nat.le_refl l0.length)
  rw [List.take_length, List.drop_length, hl] at this
  rw [decL, this]
  cases r with
  | nil => simp
  | cons x r => simp
theorem at_rest {b pre r : List UInt8} (h : b = pre ++ r) {p : Nat} (hp : p + r.length = b.length) (j : Nat) : b[p + j]? = r[j]? := by
  subst h
  have : p = pre.length := by simp at hp; omega
  subst this
  rw [List.getElem?_append_right (by omega)]; congr 1; omega
theorem drop_rest {b pre r : List UInt8} (h : b = pre ++ r) {p : Nat} (hp : p + r.length = b.length) : b.drop p = r := by
  subst h
  have : p = pre.length := by simp at hp; omega
  subst this
  exact List.drop_left
theorem conv_at {w : World} {A : Option Addr} {l : List UInt8} (h : Rd w A (bytesV l)) (n c : Nat) (hn : l.length = n) : (convert 42 9 (.slice A n c)).run Tryz.prog w = .ok (.string (strL l)) w := by subst hn; exact conv_str h c
theorem news3 (w : World) (u v x : Value) (T : TypeId) : ∀ j y, [u, v, x][j]? = some y → (w.alloc (.cells #[u, v, x] T)).cell? ((⟨w.heap.size, 0, none⟩ : Addr).add j) = some y := by
  intro j y hj
  match j with
  | 0 => simp at hj; subst hj; exact cell_new w _ T 0 u rfl
  | 1 => simp at hj; subst hj; exact cell_new w _ T 1 v rfl
  | 2 => simp at hj; subst hj; exact cell_new w _ T 2 x rfl
  | j + 3 => simp at hj
end Go.Proofs.YtehcpjodkadfnaaGreat
