/- Merged out of: Qu Sb Sc Sd. -/
import Derived.Test.YtehcpjodkadfnaaGreatVi
import Derived.Test.YtehcpjodkadfnaaGreatVj
/- ChangeKeeps, in plain words: where a field that no change names stands; what its value is. -/
set_option linter.unusedSimpArgs false
set_option linter.unusedVariables false
set_option maxRecDepth 100000
namespace Go.Proofs.YtehcpjodkadfnaaGreat
open Go.RowKit Go.Lib

theorem findZ_name {l : List Fd} {s : ByteArray} {j : Nat} (h : findZ l s = j) : ∃ f, l[j]? = some f ∧ f.s = s := by
  induction l generalizing j with
  | nil => unfold findZ at h; omega
  | cons x r ih =>
    unfold findZ at h
    split at h
    · rename_i e
      obtain rfl : j = 0 := by omega
      exact ⟨x, rfl, by simpa using e⟩
    · split at h
      · omega
      · rename_i h2
        obtain ⟨k, rfl⟩ : ∃ k, j = k + 1 := ⟨j - 1, by omega⟩
        obtain ⟨f, h3, h4⟩ := ih (j := k) (by omega)
        exact ⟨f, by simpa using h3, h4⟩
theorem stepE_ok {l : List Fd} {c : Ch} (h : makeE l c = 0) : (1 ≤ c.op ∧ c.op ≤ 5) ∧ (2 ≤ c.op ∧ c.op ≤ 4 → ¬ findZ l c.s < 0) ∧ (c.op = 5 → permB c.q l.length = true) := by
  unfold makeE at h
  split at h
  · rename_i hs
    unfold stepE at hs
    split at hs; · omega
    split at hs; · omega
    rename_i h1
    split at hs; · omega
    rename_i h2
    split at hs; · omega
    split at hs; · omega
    split at hs; · omega
    rename_i h5
    exact ⟨by omega, fun h => fun h' => h2 ⟨h.1, h.2, h'⟩, fun h => Bool.of_not_eq_false fun hc => h5 ⟨h, hc⟩⟩
  · rename_i hs; exact absurd h hs
/-- a field that a change does not name is among the new ones, and comes from where it was -/
theorem new_keeps {l : List Fd} {c : Ch} (h : makeE l c = 0) {j : Nat} {f : Fd} (hf : l[j]? = some f) (hn : c.s ≠ f.s) : ∃ i : Nat, (makeT l c).n[i]? = some f ∧ (makeT l c).m[i]? = some ⟨(j : Int), Vl.z⟩ := by
  obtain ⟨_, _, _, hT⟩ := makeE_right h
  obtain ⟨h1, h2, h5⟩ := stepE_ok h
  rw [hT]
  show ∃ i : Nat, (newF l c)[i]? = some f ∧ (newM l c)[i]? = some ⟨(j : Int), Vl.z⟩
  have hj : j < l.length := (List.getElem?_eq_some_iff.1 hf).1
  have hat : 2 ≤ c.op ∧ c.op ≤ 4 → atC l c ≠ j := fun hc => by
    have hz := h2 hc
    obtain ⟨g, hg, hs⟩ := findZ_name (l := l) (s := c.s) (j := atC l c) (by unfold atC; omega)
    rintro rfl
    rw [hf] at hg
    cases hg
    exact hn hs.symm
  rcases (by omega : c.op = 1 ∨ c.op = 2 ∨ c.op = 3 ∨ c.op = 4 ∨ c.op = 5) with e | e | e | e | e
  · refine ⟨j, ?_, ?_⟩
    · simp [newF, e, List.getElem?_append_left hj, hf]
    · simp [newM, e, List.getElem?_append_left (show j < (kM l.length).length by rw [kM_length]; exact hj), kM_get hj]
  · have hne := hat (by omega)
    have hF : newF l c = l.eraseIdx (atC l c) := by simp [newF, e]
    have hM : newM l c = (kM l.length).eraseIdx (atC l c) := by simp [newM, e]
    rw [hF, hM]
    rcases (by omega : j < atC l c ∨ atC l c < j) with h | h
    · exact ⟨j, by rw [List.getElem?_eraseIdx, if_pos h]; exact hf, by rw [List.getElem?_eraseIdx, if_pos h]; exact kM_get hj⟩
    · refine ⟨j - 1, ?_, ?_⟩
      · rw [List.getElem?_eraseIdx, if_neg (by omega), show j - 1 + 1 = j by omega]; exact hf
      · rw [List.getElem?_eraseIdx, if_neg (by omega), show j - 1 + 1 = j by omega]; exact kM_get hj
  · have hne := hat (by omega)
    refine ⟨j, ?_, ?_⟩
    · have hF : newF l c = l.modify (atC l c) fun f => ⟨c.g.s, f.k, f.l⟩ := by simp [newF, e]
      rw [hF, List.getElem?_modify, hf]
      simp [hne]
    · have hM : newM l c = kM l.length := by simp [newM, e]
      rw [hM]; exact kM_get hj
  · have hne := hat (by omega)
    refine ⟨j, ?_, ?_⟩
    · have hF : newF l c = l.modify (atC l c) fun f => ⟨f.s, c.g.k, c.g.l⟩ := by simp [newF, e]
      rw [hF, List.getElem?_modify, hf]
      simp [hne]
    · have hM : newM l c = kM l.length := by simp [newM, e]
      rw [hM]; exact kM_get hj
  · have hF : newF l c = c.q.map fun n => (l[n.toNat]?).getD Fd.z := by simp [newF, e]
    have hM : newM l c = c.q.map fun n => ⟨n, Vl.z⟩ := by simp [newM, e]
    have hmem : (j : Int) ∈ c.q := (of_decide_eq_true (h5 e)).mem_iff.2 (mem_rng.2 ⟨by omega, by omega⟩)
    obtain ⟨i, hi⟩ := List.mem_iff_getElem?.1 hmem
    refine ⟨i, ?_, ?_⟩
    · rw [hF, List.getElem?_map, hi]; simp [hf]
    · rw [hM, List.getElem?_map, hi]; rfl
/-- where the fields of old stand -/
def KeepsT (l : List Fd) (t : Tb) (f : Fd) (k : Nat) : Prop := ∃ j : Nat, t.n[j]? = some f ∧ t.m[j]? = some ⟨(k : Int), Vl.z⟩
theorem goT_keeps {l : List Fd} {f : Fd} {k : Nat} : ∀ (cs : List Ch) (t : Tb), TOk t → t.o = l → KeepsT l t f k → (∀ c ∈ cs, c.s ≠ f.s) → (∀ c ∈ cs, c.g.s.size ≤ 281474976710656 ∧ 0 ≤ c.d.b ∧ c.d.b < 18446744073709551616) → (goT t cs).2 = 0 → (goT t cs).1.o = l ∧ KeepsT l (goT t cs).1 f k := by
  intro cs
  induction cs with
  | nil => intro t _ ho hk _ _ _; exact ⟨ho, hk⟩
  | cons c r ih =>
    intro t ht ho hk hn hc he
    obtain ⟨g1, g2, g3⟩ := hc c List.mem_cons_self
    by_cases e : makeE t.n c = 0
    · by_cases e2 : composeE t (makeT t.n c) = 0
      · rw [goT_next e e2] at he ⊢
        have htm := TOk.make e ht.n g1 g2 g3
        obtain ⟨j, hj1, hj2⟩ := hk
        obtain ⟨i, hi1, hi2⟩ := new_keeps e hj1 (hn c List.mem_cons_self)
        obtain ⟨_, _, hcT⟩ := composeE_right e2
        refine ih _ (ht.comp htm e2) ?_ ?_ (fun x hx => hn x (List.mem_cons_of_mem _ hx)) (fun x hx => hc x (List.mem_cons_of_mem _ hx)) he
        · rw [hcT]; exact ho
        · rw [hcT]
          refine ⟨i, hi1, ?_⟩
          have hil : i < (makeT t.n c).m.length := (List.getElem?_eq_some_iff.1 hi2).1
          have hcm : compMv t (makeT t.n c) i = ⟨(k : Int), Vl.z⟩ := by
            unfold compMv
            rw [hi2]
            simp only
            rw [if_pos (by show (0 : Int) ≤ (j : Int); omega)]
            have hjt : t.m[((⟨(j : Int), Vl.z⟩ : Mv).f).toNat]? = some ⟨(k : Int), Vl.z⟩ := by
              show t.m[((j : Int)).toNat]? = _
              rw [Int.toNat_natCast]; exact hj2
            rw [hjt]
            simp only
            rw [if_neg (by show ¬ ((k : Int) < 0); omega)]
          show (compM t (makeT t.n c) (makeT t.n c).m.length)[i]? = _
          simp [compM, hil, hcm]
      · rw [goT_comp e e2] at he
        exact absurd he (by decide)
    · rw [goT_make e] at he
      exact absurd he e
theorem allT_keeps {l : List Fd} (hl : rightF l = true) (hs : NmS l) {cs : List Ch} (hc : ∀ c ∈ cs, c.g.s.size ≤ 281474976710656 ∧ 0 ≤ c.d.b ∧ c.d.b < 18446744073709551616) (he : (allT l cs).2 = 0) {k : Nat} {f : Fd} (hf : l[k]? = some f) (hn : ∀ c ∈ cs, c.s ≠ f.s) : KeepsT l (allT l cs).1 f k := by
  rw [allT, if_pos hl] at he ⊢
  exact (goT_keeps cs (keepT l) (TOk.keep hl hs) (by rw [keepT_right hl]) (by rw [keepT_right hl]; exact ⟨k, hf, kM_get (List.getElem?_eq_some_iff.1 hf).1⟩) hn hc he).2
theorem goT_old {l : List Fd} : ∀ (cs : List Ch) (t : Tb), t.o = l → (goT t cs).2 = 0 → (goT t cs).1.o = l := by
  intro cs
  induction cs with
  | nil => intro t ho _; exact ho
  | cons c r ih =>
    intro t ho he
    by_cases e : makeE t.n c = 0
    · by_cases e2 : composeE t (makeT t.n c) = 0
      · rw [goT_next e e2] at he ⊢
        exact ih _ (by rw [(composeE_right e2).2.2]; exact ho) he
      · rw [goT_comp e e2] at he
        exact absurd he (by decide)
    · rw [goT_make e] at he
      exact absurd he e
theorem allT_old {l : List Fd} {cs : List Ch} (he : (allT l cs).2 = 0) : (allT l cs).1.o = l := by
  by_cases hl : rightF l = true
  · rw [allT, if_pos hl] at he ⊢
    exact goT_old cs _ (by rw [keepT_right hl]) he
  · rw [allT, if_neg hl] at he
    exact absurd he (by decide)
/-- a right value, turned into its own field's -/
theorem castL_self {v : Vl} {f : Fd} (h : rightB v.k v.b v.t f.k f.l = true) : castL v f f = v := by
  obtain ⟨vk, vb, vt⟩ := v
  have h0 := h
  simp only [rightB, Bool.and_eq_true, decide_eq_true_eq] at h
  obtain ⟨⟨⟨hm, hk⟩, ht⟩, _⟩ := h
  obtain rfl : vk = f.k := hk
  rw [castL, if_pos ⟨h0, casts_refl hm⟩]
  have e1 : castZ vb f.k f.k = vb := by
    unfold castZ
    rw [if_neg, if_neg, if_neg]
    · rintro ⟨h1, h2⟩; omega
    · rintro ⟨h1, h2⟩; rw [h1] at h2; simp [btw] at h2
    · rintro ⟨h1, h2⟩; rw [h1] at h2; simp [btw] at h2
  have e2 : castT vt f.k f.l = vt := by
    unfold castT
    by_cases hk : f.k = 12
    · rw [if_pos hk]
      rw [if_pos hk] at ht
      have ht : (vt.size : Int) = f.l := ht
      have hlen : (bl vt).length = f.l.toNat := by rw [← ht]; simp [bl]
      rw [padL, ← hlen]
      simp
      rfl
    · rw [if_neg hk]
      rw [if_neg hk] at ht
      have ht : (vt.size : Int) = 0 := ht
      have : vt.data.size = 0 := by have : vt.size = vt.data.size := rfl; omega
      obtain ⟨a⟩ := vt
      have ha : a = #[] := Array.eq_empty_of_size_eq_zero this
      rw [ha]
  show (⟨f.k, castZ vb f.k f.k, castT vt f.k f.l⟩ : Vl) = ⟨f.k, vb, vt⟩
  rw [e1, e2]
/-- a cast value is right -/
theorem castL_right {v : Vl} {f g : Fd} (b0 : 0 ≤ v.b) (b1 : v.b < 18446744073709551616) (h : rightB v.k v.b v.t f.k f.l = true) (hc : castsB f.k f.l g.k g.l = true) : rightB (castL v f g).k (castL v f g).b (castL v f g).t g.k g.l = true := by
  rw [castL, if_pos ⟨h, hc⟩]
  exact (cast_right (tx := v.t) b0 b1 h hc).1
/-- a right value can be set -/
theorem setE_right {fs : List Fd} (hr : rightF fs = true) {b : List UInt8} (hb : b.length = sizeF fs) {i : Nat} {f : Fd} (hf : fs[i]? = some f) {v : Vl} (h : rightB v.k v.b v.t f.k f.l = true) : setE b fs f.s v = 0 := by
  obtain ⟨at_, _, hl⟩ := loc_name hr hf hb
  simp only [setE, hl]
  rw [if_pos h]
end Go.Proofs.YtehcpjodkadfnaaGreat
/- ChangeKeeps: does a change name a field? -/
set_option linter.unusedSimpArgs false
set_option linter.unusedVariables false
set_option maxRecDepth 100000
namespace Go.Proofs.YtehcpjodkadfnaaGreat
open Go.RowKit Go.Lib

def namesC (p : Ch × Value) (nm : ByteArray) : Bool := decide (p.1.s = nm) || decide (p.1.g.s = nm)
def namedB (cs : List (Ch × Value)) (nm : ByteArray) : Bool := cs.any fun p => namesC p nm
set_option maxHeartbeats 4000000 in
theorem named_m (K : Option Addr) (cK nc : Nat) (cs : List (Ch × Value)) (hnc : cs.length = nc) (hk : nc ≤ 9223372036854775807) (nm : ByteArray) (r : Bool) (hr : namedB cs nm = r) (w : World) (hK : Rd w K (cellsC cs)) (ho : ∀ p ∈ cs, ChO w p) :
    Calls Tryz.prog 12 #[.slice K nc cK, .string nm] w fun e w' => e = .returned (.bool r) ∧ Below w.heap.size w w' := by
  have HNC := Lib.hid hnc; have HO := Lib.hid ho; have HR := Lib.hid hr
  clear hnc ho hr
  go_enter Tryz.func12, Tryz.ntmps12
  go_wp2
  go_loopw [4, 6, 9] (fun _ _ i wr => ∃ (k : Nat), k ≤ nc ∧ i = .int .i64 k ∧ Hid (∀ p ∈ cs.take k, namesC p nm = false) ∧ Below w.heap.size w wr) (fun _ _ i _ => nc - (intOf i).toNat)
  case atStart => exact ⟨0, by omega, rfl, Lib.hid (by simp), Below.refl _ _⟩
  case round =>
    obtain ⟨k, hk1, rfl, hall, HB⟩ := hrel
    by_cases hlt : k < nc
    · obtain ⟨⟨c, pv⟩, hp⟩ : ∃ x, cs[k]? = some x := ⟨_, List.getElem?_eq_getElem (by rw [HNC.out]; exact hlt)⟩
      obtain ⟨Q, qc, ev⟩ : ∃ Q qc, pv = .slice Q c.q.length qc := by
        obtain ⟨Q, qc, h1, _⟩ := HO.out _ (List.mem_of_getElem? hp)
        exact ⟨Q, qc, h1⟩
      subst ev
      obtain ⟨n, hn⟩ : ∃ n, c.q.length = n := ⟨_, rfl⟩
      rw [hn] at hp
      have hj0 : (0 : Int) ≤ (k : Int) := by omega
      have hj1 : (k : Int) < (nc : Int) := by omega
      obtain ⟨ad, e, c0, c1, c2, c3, c4, c5, c6, c7, c8⟩ := (hK.below HB).ch hp
      subst e
      dsimp only at c0 c1 c2 c3 c4 c5 c6 c7 c8
      have hmem := List.mem_of_getElem? hp
      by_cases h1 : c.s = nm
      · have e1 : (c.s.toList == nm.toList) = true := by rw [name_beq]; exact decide_eq_true h1
        obtain rfl : r = true := by rw [← HR.out]; exact List.any_eq_true.2 ⟨_, hmem, by simp [namesC, h1]⟩
        clear hp hn h1 hmem
        go_wp2
        go_ret
        exact ⟨rfl, HB.alloc HB.size _⟩
      · have e1 : (c.s.toList == nm.toList) = false := by rw [name_beq]; exact decide_eq_false h1
        by_cases h2 : c.g.s = nm
        · have e2 : (c.g.s.toList == nm.toList) = true := by rw [name_beq]; exact decide_eq_true h2
          obtain rfl : r = true := by rw [← HR.out]; exact List.any_eq_true.2 ⟨_, hmem, by simp [namesC, h2]⟩
          clear hp hn h1 h2 hmem
          go_wp2
          go_ret
          exact ⟨rfl, HB.alloc HB.size _⟩
        · have e2 : (c.g.s.toList == nm.toList) = false := by rw [name_beq]; exact decide_eq_false h2
          have hall2 : Hid (∀ p ∈ cs.take (k + 1), namesC p nm = false) := Lib.hid (fun p hp2 => by
            rw [List.take_add_one, hp] at hp2
            rcases List.mem_append.1 hp2 with h | h
            · exact hall.out p h
            · simp at h; subst h; simp [namesC, h1, h2])
          clear hp hn h1 h2 hmem hall
          go_wp2
          go_roundw
          case rel => exact ⟨k + 1, by omega, by go_num, hall2, HB.alloc HB.size _⟩
          case measure => simp [intOf]; omega
    · obtain rfl : k = nc := by omega
      obtain rfl : r = false := by
        rw [← HR.out]
        have h := hall.out
        rw [List.take_of_length_le (by rw [HNC.out]; exact Nat.le_refl _)] at h
        exact List.any_eq_false.2 (fun p hp => by rw [h p hp]; decide)
      go_wp2
      go_ret
      exact ⟨rfl, HB⟩
end Go.Proofs.YtehcpjodkadfnaaGreat
/- ChangeKeeps: an object out of values, as the document makes it. -/
set_option linter.unusedSimpArgs false
set_option linter.unusedVariables false
set_option maxRecDepth 100000
namespace Go.Proofs.YtehcpjodkadfnaaGreat
open Go.RowKit Go.Lib

/-- the object's bytes, when the first values are set -/
def objL (l : List Fd) (vs : List Vl) : Nat → List UInt8
  | 0 => List.replicate (sizeF l) 0
  | k + 1 => match l[k]?, vs[k]? with
    | some f, some v => setB (objL l vs k) l f.s v
    | _, _ => objL l vs k
/-- values that fit their fields -/
def FitV (l : List Fd) (vs : List Vl) : Prop := ∀ (k : Nat) (f : Fd) (v : Vl), l[k]? = some f → vs[k]? = some v → rightB v.k v.b v.t f.k f.l = true ∧ 0 ≤ v.b ∧ v.b < 18446744073709551616
theorem objL_inv {l : List Fd} (hr : rightF l = true) {vs : List Vl} (hlen : l.length ≤ vs.length) (hv : FitV l vs) : ∀ k, k ≤ l.length → ∃ was, InvS l (objL l vs k) was ∧ ∀ j, j < k → was[j]? = vs[j]? := by
  intro k
  induction k with
  | zero => intro _; exact ⟨l.map Fd.zv, invS_new hr rfl, fun j hj => by omega⟩
  | succ k ih =>
    intro hk
    obtain ⟨was, hi, hw⟩ := ih (by omega)
    have hf : l[k]? = some (l[k]'(by omega)) := List.getElem?_eq_getElem (by omega)
    have hx : vs[k]? = some (vs[k]'(by omega)) := List.getElem?_eq_getElem (by omega)
    generalize l[k]'(by omega) = f at hf
    generalize vs[k]'(by omega) = v at hx
    obtain ⟨h1, h2, h3⟩ := hv k f v hf hx
    have e : objL l vs (k + 1) = setB (objL l vs k) l f.s v := by rw [objL, hf, hx]
    rw [e]
    refine ⟨was.set k v, invS_set hr hi hf v h2 h3 (setE_right hr hi.1 hf h1), fun j hj => ?_⟩
    by_cases hjk : j = k
    · subst hjk
      rw [List.getElem?_set_self (by rw [hi.2.1]; omega), hx]
    · rw [List.getElem?_set_ne (by omega)]
      exact hw j (by omega)
theorem objL_len {l : List Fd} (hr : rightF l = true) {vs : List Vl} (hlen : l.length ≤ vs.length) (hv : FitV l vs) {k : Nat} (hk : k ≤ l.length) : (objL l vs k).length = sizeF l := by
  obtain ⟨was, h, _⟩ := objL_inv hr hlen hv k hk
  exact h.1
/-- what is got of the object -/
theorem objL_get {l : List Fd} (hr : rightF l = true) {vs : List Vl} (hlen : l.length ≤ vs.length) (hv : FitV l vs) {k : Nat} {f : Fd} (hf : l[k]? = some f) : getE (objL l vs l.length) l f.s = 0 ∧ ∀ v, vs[k]? = some v → getV (objL l vs l.length) l f.s = v := by
  obtain ⟨was, h, hw⟩ := objL_inv hr hlen hv l.length (Nat.le_refl _)
  have hk : k < l.length := (List.getElem?_eq_some_iff.1 hf).1
  have hx : was[k]? = some (was[k]'(by rw [h.2.1]; exact hk)) := List.getElem?_eq_getElem (by rw [h.2.1]; exact hk)
  obtain ⟨g1, g2⟩ := h.2.2 k f _ hf hx
  refine ⟨g2, fun v hv => ?_⟩
  rw [g1]
  rw [hw k hk, hv] at hx
  exact (Option.some.inj hx).symm
set_option maxHeartbeats 4000000 in
theorem Object_m (l : List Fd) (m : Nat) (hm : l.length = m) (hl : m ≤ 9223372036854775807) (hr : rightF l = true) (hs : NmS l) (A : Option Addr) (cA : Nat) (vs : List Vl) (nv : Nat) (hnv : vs.length = nv) (hlv : m ≤ nv) (hnl : nv ≤ 9223372036854775807) (hv : FitV l vs) (Av : Option Addr) (cv : Nat) (x : ByteArray) (hx : strL (objL l vs m) = x) (w : World) (hA : Rd w A (cellsF l)) (hV : Rd w Av (cellsVl vs)) :
    Calls Tryz.prog 11 #[.slice A m cA, .slice Av nv cv] w fun e w' => e = .returned (.string x) ∧ Below w.heap.size w w' := by
  obtain ⟨z, hz⟩ : ∃ z, sizeF l = z := ⟨_, rfl⟩
  obtain ⟨ls, hls⟩ : ∃ ls, layL l = ls := ⟨_, rfl⟩
  have hz4 : z ≤ 4096 := by rw [← hz]; exact sizeF_le l
  have hmk := make_bytes z (by omega)
  have hcv : ∀ W : World, (convert 42 9 (.slice (some ⟨W.heap.size, 0, none⟩) z z)).run Tryz.prog (W.alloc (.cells (bytesV (List.replicate z 0)).toArray 5)) = .ok (.string (strL (List.replicate z 0))) (W.alloc (.cells (bytesV (List.replicate z 0)).toArray 5)) := fun W => conv_at (rd_new W (bytesV (List.replicate z 0)) 5) z z (by simp)
  have HM := Lib.hid hm; have HZ := Lib.hid hz; have HLS := Lib.hid hls; have HS := Lib.hid hs; have HNV := Lib.hid hnv; have HV := Lib.hid hv; have HR := Lib.hid hr; have HX := Lib.hid hx
  have HB := Below.refl w.heap.size w
  clear hm hz hls hs hnv hv hr hx
  go_enter Tryz.func11, Tryz.ntmps11
  go_wp2_with (go_at_call 29; refine (rLayout_m A cA m l HM.out z HZ.out ls HLS.out ls.length rfl _ hA hl HS.out.fds).mono ?_; rintro e W1 ⟨B, c', rfl, _, hb⟩; replace HB := HB.trans (hb.mono HB.size); clear hb)
  have HB0 := HB.alloc HB.size (.cells (bytesV (List.replicate z 0)).toArray 5)
  clear HB
  go_loopw [7, 8, 9, 10] (fun s i _ _ wr => ∃ (k : Nat), k ≤ m ∧ s = .string (strL (objL l vs k)) ∧ i = .int .i64 k ∧ Below w.heap.size w wr) (fun _ i _ _ _ => m - (intOf i).toNat)
  case atStart => exact ⟨0, by omega, by rw [objL, HZ.out], rfl, HB0⟩
  case round =>
    obtain ⟨k, hk1, rfl, rfl, HB⟩ := hrel
    clear HB0
    by_cases hlt : k < m
    · obtain ⟨f, hf⟩ : ∃ f, l[k]? = some f := ⟨_, List.getElem?_eq_getElem (by rw [HM.out]; exact hlt)⟩
      obtain ⟨v, hvk⟩ : ∃ v, vs[k]? = some v := ⟨_, List.getElem?_eq_getElem (by rw [HNV.out]; omega)⟩
      obtain ⟨h1, h2, h3⟩ := HV.out k f v hf hvk
      have hlen : (objL l vs k).length = sizeF l := objL_len HR.out (by rw [HM.out, HNV.out]; exact hlv) HV.out (by rw [HM.out]; exact hk1)
      have he := setE_right HR.out hlen hf h1
      have hnx : objL l vs (k + 1) = setB (objL l vs k) l f.s v := by rw [objL, hf, hvk]
      obtain ⟨b, hb0⟩ : ∃ b, objL l vs k = b := ⟨_, rfl⟩
      obtain ⟨b2, hb2⟩ : ∃ b, objL l vs (k + 1) = b := ⟨_, rfl⟩
      rw [hb0] at he hnx ⊢
      rw [hb2] at hnx
      have HE := Lib.hid he; have HNX := Lib.hid hnx; have HB2 := Lib.hid hb2; have HF := Lib.hid hf; have HVK := Lib.hid hvk
      have hj0 : (0 : Int) ≤ (k : Int) := by omega
      have hj1 : (k : Int) < (m : Int) := by omega
      have hj2 : (k : Int) < (nv : Int) := by omega
      obtain ⟨fd, ef, _, _, _⟩ := hA.fld hf
      obtain ⟨vd, ev, _, _, _⟩ := hV.vl hvk
      subst ef ev
      clear he hnx hb2 hb0 hlen h1
      have hA1 := hA.below HB
      have hV1 := hV.below HB
      clear hf hvk
      go_upto_region 6 with fail
      refine RW.start (fun w' => Below wr.heap.size wr w') (by kernel_rfl) (by kernel_rfl) (Below.refl _ _).drew ?_
      repeat (first
        | (refine' RW.val (by rfl) ?_ ?_; rotate_left; (focus (intro w' hS; have HB5 := hS; obtain ⟨_, ef, f0, f1, f2⟩ := (hA1.below HB5).fld HF.out; cases ef; obtain ⟨_, ev, v0, v1, v2⟩ := (hV1.below HB5).vl HVK.out; cases ev; clear hS; go_simp; rfl)); simp only [Act.put, List.setIfInBounds_toArray, List.set_cons_zero, List.set_cons_succ])
        | (refine RW.off (by rfl) ?_; simp only [Act.put, List.setIfInBounds_toArray, List.set_cons_zero, List.set_cons_succ])
        | (refine' RW.call (by rfl) ?_ ?_ ?_
           rotate_left 3
           (focus (intro w' hS; have HB5 := hS; obtain ⟨_, ef, f0, f1, f2⟩ := (hA1.below HB5).fld HF.out; cases ef; obtain ⟨_, ev, v0, v1, v2⟩ := (hV1.below HB5).vl HVK.out; cases ev; clear hS; go_simp; exact ⟨rfl, rfl⟩))
           (focus
             intro w' hS
             have HB5 := hS; obtain ⟨_, ef, f0, f1, f2⟩ := (hA1.below HB5).fld HF.out; cases ef; obtain ⟨_, ev, v0, v1, v2⟩ := (hV1.below HB5).vl HVK.out; cases ev; clear hS
             first
               | (refine (rSet_m (strL b) b (by simp [bl, strL]) _ cA m l HM.out f.s v.k v.b v.t h2 h3 (strL b2) (by rw [HNX.out]) 0 HE.out _ (hA1.below HB5) hl HS.out.fds).mono ?_; rintro e w1 ⟨rfl, hb⟩; exact ⟨rfl, (below_seq HB5 hb)⟩))
           simp only [Act.put, List.setIfInBounds_toArray, List.set_cons_zero, List.set_cons_succ]))
      refine RW.done (fun w' hS => ?_)
      have HB5 := hS; obtain ⟨_, ef, f0, f1, f2⟩ := (hA1.below HB5).fld HF.out; cases ef; obtain ⟨_, ev, v0, v1, v2⟩ := (hV1.below HB5).vl HVK.out; cases ev; clear hS
      go_wp2
      go_roundw
      case rel => exact ⟨k + 1, by omega, by rw [HB2.out], by go_num, HB.trans (HB5.mono HB.size)⟩
      case measure => simp [intOf]; omega
    · obtain rfl : k = m := by omega
      rw [HX.out]
      go_wp2
      go_ret
      exact ⟨rfl, HB⟩
end Go.Proofs.YtehcpjodkadfnaaGreat
/- ChangeKeeps: bytes that are an object's are found to be; what a table makes of an object, in plain words. -/
set_option linter.unusedSimpArgs false
set_option linter.unusedVariables false
set_option maxRecDepth 100000
namespace Go.Proofs.YtehcpjodkadfnaaGreat
open Go.RowKit Go.Lib

set_option maxHeartbeats 4000000 in
theorem Check_yes (l : List Fd) (m : Nat) (hm : l.length = m) (hl : m ≤ 9223372036854775807) (hr : rightF l = true) (A : Option Addr) (cA : Nat) (b : List UInt8) (nb : Nat) (hb0 : b.length = nb) (hz : sizeF l = nb) (Ab : Option Addr) (cb : Nat) (hcb : nb ≤ cb) (hg : ∀ (k : Nat) (f : Fd), l[k]? = some f → getE b l f.s = 0) (w : World) (hA : Rd w A (cellsF l)) (hb : Rd w Ab (bytesV b)) :
    Calls Tryz.prog 25 #[.slice Ab nb cb, .slice A m cA] w fun e w' => e = .returned (.bool true) ∧ Below w.heap.size w w' := by
  obtain ⟨ls, hls⟩ : ∃ ls, layL l = ls := ⟨_, rfl⟩
  have HM := Lib.hid hm; have HZ := Lib.hid hz; have HLS := Lib.hid hls; have HR := Lib.hid hr; have HB0 := Lib.hid hb0; have HG := Lib.hid hg
  have HB := Below.refl w.heap.size w
  clear hm hz hls hr hb0 hg
  go_enter Tryz.func25, Tryz.ntmps25
  go_wp2_with (first
    | (go_at_call 51; refine (Layout_m A cA m l HM.out nb HZ.out ls HLS.out ls.length rfl _ hA hl).mono ?_; rintro e W1 ⟨B, c', rfl, _, hb1⟩; replace HB := HB.trans (hb1.mono HB.size); clear hb1)
    | (go_at_call 21; refine (Right_m A cA m l HM.out true HR.out _ (hA.below HB) hl).mono ?_; rintro e W2 ⟨rfl, hb1⟩; replace HB := HB.trans (hb1.mono HB.size); clear hb1))
  have HBs := HB
  clear HB
  go_loopw [8, 9, 10, 27] (fun _ _ _ i wr => ∃ (k : Nat), k ≤ m ∧ i = .int .i64 k ∧ Below w.heap.size w wr) (fun _ _ _ i _ => m - (intOf i).toNat)
  case atStart => exact ⟨0, by omega, rfl, HBs⟩
  case round =>
    obtain ⟨k, hk1, rfl, HB⟩ := hrel
    clear HBs
    by_cases hlt : k < m
    · obtain ⟨f, hf⟩ : ∃ f, l[k]? = some f := ⟨_, List.getElem?_eq_getElem (by rw [HM.out]; exact hlt)⟩
      have he := HG.out k f hf
      obtain ⟨v, hv⟩ : ∃ v, getV b l f.s = v := ⟨_, rfl⟩
      have HE := Lib.hid he; have HV := Lib.hid hv
      have hj0 : (0 : Int) ≤ (k : Int) := by omega
      have hj1 : (k : Int) < (m : Int) := by omega
      obtain ⟨fd, ef, f0, f1, f2⟩ := (hA.below HB).fld hf
      subst ef
      have nb1 := below_new (w := wr) (.cells #[.string f.s, .int .i64 f.k, .int .i64 f.l] 29)
      have FB := OBox.new wr [.string f.s, .int .i64 f.k, .int .i64 f.l] 29
      clear he hv hf
      go_upto_region 7 with fail
      generalize wr.alloc (.cells #[.string f.s, .int .i64 f.k, .int .i64 f.l] 29) = W3 at *
      obtain ⟨g0, g1, g2⟩ := FBox3 FB
      replace HB := HB.trans (nb1.mono HB.size)
      clear f0 f1 f2
      go_wp2_with (go_at_call 13; refine (Get_m Ab nb cb b HB0.out _ cA m l HM.out f.s v HV.out 0 HE.out _ (hA.below HB) hl (hb.below HB) hcb).mono ?_; rintro e W4 ⟨rfl, hb1⟩; replace HB := HB.trans (hb1.mono HB.size); clear hb1)
      go_roundw
      case rel => exact ⟨k + 1, by omega, by go_num, HB.alloc HB.size _⟩
      case measure => simp [intOf]; omega
    · obtain rfl : k = m := by omega
      go_wp2
      go_ret
      exact ⟨rfl, HB⟩
/-- the value that a move brings -/
def mvV (t : Tb) (vs : List Vl) (k : Nat) : Vl :=
  match t.m[k]?, t.n[k]? with
  | some m, some g => if 0 ≤ m.f then (match vs[m.f.toNat]?, t.o[m.f.toNat]? with | some v, some f => castL v f g | _, _ => Vl.z) else m.d
  | _, _ => Vl.z
/-- the new object's bytes, when the first fields are set -/
def outL (t : Tb) (vs : List Vl) : Nat → List UInt8
  | 0 => List.replicate (sizeF t.n) 0
  | k + 1 => match t.n[k]? with
    | some g => setB (outL t vs k) t.n g.s (mvV t vs k)
    | none => outL t vs k
theorem mvV_ok {t : Tb} (ht : rightT t = true) (hw : MvW t.m) {vs : List Vl} (hlen : t.o.length ≤ vs.length) (hv : FitV t.o vs) {k : Nat} {g : Fd} (hg : t.n[k]? = some g) :
    rightB (mvV t vs k).k (mvV t vs k).b (mvV t vs k).t g.k g.l = true ∧ 0 ≤ (mvV t vs k).b ∧ (mvV t vs k).b < 18446744073709551616 := by
  obtain ⟨_, _, hl, hok⟩ := rightT_iff.1 ht
  have hk : k < t.m.length := by rw [hl]; exact (List.getElem?_eq_some_iff.1 hg).1
  have hm : t.m[k]? = some (t.m[k]'hk) := List.getElem?_eq_getElem hk
  have hwm := hw _ (List.getElem_mem hk)
  generalize t.m[k]'hk = m at hm hwm
  have h := hok k hk
  rw [okAt_mk hm hg] at h
  by_cases hf : m.f = -1
  · have e : mvV t vs k = m.d := by unfold mvV; rw [hm, hg]; simp only; rw [if_neg (by omega)]
    rw [e]
    obtain ⟨mf, md⟩ := m
    obtain rfl : mf = -1 := hf
    rw [okMv_neg, Bool.and_eq_true] at h
    exact ⟨h.1, hwm.1, hwm.2⟩
  · obtain ⟨h0, _, f, hof, hc⟩ := okMv_pos hf h
    have hlo : m.f.toNat < t.o.length := (List.getElem?_eq_some_iff.1 hof).1
    have hx : vs[m.f.toNat]? = some (vs[m.f.toNat]'(by omega)) := List.getElem?_eq_getElem (by omega)
    generalize vs[m.f.toNat]'(by omega) = v at hx
    have e : mvV t vs k = castL v f g := by unfold mvV; rw [hm, hg]; simp only; rw [if_pos h0, hx, hof]
    rw [e]
    obtain ⟨r1, r2, r3⟩ := hv _ f v hof hx
    exact ⟨castL_right r2 r3 r1 hc, castL_bd r2 r3⟩
theorem outL_inv {t : Tb} (ht : rightT t = true) (hw : MvW t.m) {vs : List Vl} (hlen : t.o.length ≤ vs.length) (hv : FitV t.o vs) : ∀ k, k ≤ t.n.length → ∃ was, InvS t.n (outL t vs k) was ∧ ∀ j, j < k → was[j]? = some (mvV t vs j) := by
  have hr := (rightT_iff.1 ht).2.1
  intro k
  induction k with
  | zero => intro _; exact ⟨t.n.map Fd.zv, invS_new hr rfl, fun j hj => by omega⟩
  | succ k ih =>
    intro hk
    obtain ⟨was, hi, hx⟩ := ih (by omega)
    have hf : t.n[k]? = some (t.n[k]'(by omega)) := List.getElem?_eq_getElem (by omega)
    generalize t.n[k]'(by omega) = g at hf
    obtain ⟨h1, h2, h3⟩ := mvV_ok ht hw hlen hv hf
    have e : outL t vs (k + 1) = setB (outL t vs k) t.n g.s (mvV t vs k) := by rw [outL, hf]
    rw [e]
    refine ⟨was.set k (mvV t vs k), invS_set hr hi hf _ h2 h3 (setE_right hr hi.1 hf h1), fun j hj => ?_⟩
    by_cases hjk : j = k
    · subst hjk
      rw [List.getElem?_set_self (by rw [hi.2.1]; omega)]
    · rw [List.getElem?_set_ne (by omega)]
      exact hx j (by omega)
theorem outL_len {t : Tb} (ht : rightT t = true) (hw : MvW t.m) {vs : List Vl} (hlen : t.o.length ≤ vs.length) (hv : FitV t.o vs) {k : Nat} (hk : k ≤ t.n.length) : (outL t vs k).length = sizeF t.n := by
  obtain ⟨was, h, _⟩ := outL_inv ht hw hlen hv k hk
  exact h.1
theorem outL_get {t : Tb} (ht : rightT t = true) (hw : MvW t.m) {vs : List Vl} (hlen : t.o.length ≤ vs.length) (hv : FitV t.o vs) {j : Nat} {g : Fd} (hg : t.n[j]? = some g) : getE (outL t vs t.n.length) t.n g.s = 0 ∧ getV (outL t vs t.n.length) t.n g.s = mvV t vs j := by
  obtain ⟨was, h, hw⟩ := outL_inv ht hw hlen hv t.n.length (Nat.le_refl _)
  have hj : j < t.n.length := (List.getElem?_eq_some_iff.1 hg).1
  obtain ⟨g1, g2⟩ := h.2.2 j g _ hg (hw j hj)
  exact ⟨g2, g1⟩
/-- a field that stands where it came from has its value -/
theorem keeps_val {l : List Fd} {t : Tb} (ho : t.o = l) {vs : List Vl} {k : Nat} {f : Fd} {v : Vl} (hf : l[k]? = some f) (hvk : vs[k]? = some v) (hr : rightB v.k v.b v.t f.k f.l = true) {j : Nat} (hj : t.n[j]? = some f) (hm : t.m[j]? = some ⟨(k : Int), Vl.z⟩) : mvV t vs j = v := by
  unfold mvV
  rw [hm, hj]
  simp only
  rw [if_pos (by omega), Int.toNat_natCast, hvk, ho, hf]
  exact castL_self hr
end Go.Proofs.YtehcpjodkadfnaaGreat
