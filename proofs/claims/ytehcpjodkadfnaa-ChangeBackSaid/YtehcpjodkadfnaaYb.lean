/- The law ChangeBack: WHATEVER THE INPUT it tells true, it never panics, and the input reads as it did. Merged out of: Qa Qb Qc Zc. -/
import Derived.Test.YtehcpjodkadfnaaVm
import Derived.Test.YtehcpjodkadfnaaUi
import Derived.Test.YtehcpjodkadfnaaVn
import Derived.Test.YtehcpjodkadfnaaRows
/- Fields ordered anew, and back; renamed, and back: in plain words. -/
set_option linter.unusedSimpArgs false
set_option linter.unusedVariables false
set_option maxRecDepth 100000
namespace Go.Proofs.Ytehcpjodkadfnaa
open Go.RowKit Go.Lib

/-- an order -/
def chO (q : List Int) : Ch := ⟨5, ByteArray.empty, ⟨ByteArray.empty, 0, 0⟩, ⟨0, 0, ByteArray.empty⟩, q⟩
/-- a new name -/
def chN (a b : ByteArray) : Ch := ⟨3, a, ⟨b, 0, 0⟩, ⟨0, 0, ByteArray.empty⟩, []⟩
/-- is every place of 'back' the one that the order tells? -/
def BackOk (q back : List Int) (k : Nat) : Prop := ∀ (i p : Nat), i < k → q[i]? = some (p : Int) → back[p]? = some (i : Int)
theorem newO (l : List Fd) (q : List Int) : newF l (chO q) = q.map fun n => (l[n.toNat]?).getD Fd.z := by simp [newF, chO]
theorem makeO {l : List Fd} {q : List Int} (hr : rightF l = true) (hp : permB q l.length = true) (hn : rightF (newF l (chO q)) = true) : makeE l (chO q) = 0 := by
  have hs : stepE l (chO q) = 0 := by simp [stepE, hr, chO, hp]
  rw [makeE, if_pos hs, if_pos hn]
theorem makeO_perm {l : List Fd} {q : List Int} (h : makeE l (chO q) = 0) : permB q l.length = true := by
  unfold makeE at h
  split at h
  · rename_i hs
    unfold stepE at hs
    split at hs; · omega
    split at hs; · omega
    split at hs; · omega
    split at hs; · omega
    split at hs; · omega
    split at hs; · omega
    rename_i h5
    exact Bool.of_not_eq_false fun hc => h5 ⟨rfl, hc⟩
  · rename_i hs; exact absurd h hs
theorem order_back {l : List Fd} {q back : List Int} (h : makeE l (chO q) = 0) (hb : back.length = l.length) (hk : BackOk q back q.length) : makeE (newF l (chO q)) (chO back) = 0 ∧ newF (newF l (chO q)) (chO back) = l := by
  obtain ⟨-, hr, hf, -⟩ := makeE_right h
  have hp := makeO_perm h
  have hq := perm_len hp
  have hml : (newF l (chO q)).length = l.length := by rw [newO, List.length_map, hq]
  have hpb : permB back (newF l (chO q)).length = true := by
    rw [hml]
    refine decide_eq_true (perm_of_all _ back hb fun i hi => ?_)
    obtain ⟨n, hn⟩ : ∃ n, q[i]? = some n := ⟨_, List.getElem?_eq_getElem (by omega)⟩
    have hn0 := perm_mem hp (List.mem_of_getElem? hn)
    exact List.mem_of_getElem? (hk i n.toNat (by omega) (by rw [hn, Int.toNat_of_nonneg hn0.1]))
  have hnew : newF (newF l (chO q)) (chO back) = l := by
    rw [newO (newF l (chO q))]
    refine List.ext_getElem? fun k => ?_
    rw [List.getElem?_map]
    by_cases hkl : k < l.length
    · have hmem : (k : Int) ∈ q := (of_decide_eq_true hp).mem_iff.2 (mem_rng.2 ⟨by omega, by omega⟩)
      obtain ⟨i, hi, e⟩ := List.getElem_of_mem hmem
      have hqi : q[i]? = some (k : Int) := by rw [List.getElem?_eq_getElem hi, e]
      have hbk := hk i _ hi hqi
      rw [hbk, Option.map_some, Int.toNat_natCast, newO, List.getElem?_map, hqi, Option.map_some, Int.toNat_natCast, Option.getD_some, List.getElem?_eq_getElem hkl, Option.getD_some]
    · rw [List.getElem?_eq_none (by omega), List.getElem?_eq_none (by omega)]; rfl
  exact ⟨makeO hf hpb (by rw [hnew]; exact hr), hnew⟩
theorem newN (f : Fd) (r : List Fd) (b : ByteArray) : newF (f :: r) (chN f.s b) = ⟨b, f.k, f.l⟩ :: r := by
  have h : atC (f :: r) (chN f.s b) = 0 := by simp [atC, findZ, chN]
  simp [newF, h]
  simp [chN]
theorem makeN {l : List Fd} {a b : ByteArray} (hr : rightF l = true) (ha : ¬ findZ l a < 0) (hn : rightF (newF l (chN a b)) = true) : makeE l (chN a b) = 0 := by
  have hs : stepE l (chN a b) = 0 := by
    unfold stepE
    rw [if_neg (by simp [hr]), if_neg (by simp [chN]), if_neg (by simpa [chN] using ha), if_neg (by simp [chN]), if_neg (by simp [chN]), if_neg (by simp [chN])]
  rw [makeE, if_pos hs, if_pos hn]
theorem find_nil {r : List Fd} {nm : ByteArray} (h : findZ r nm < 0) : ∀ (j : Nat) (g : Fd), r[j]? = some g → g.s ≠ nm := fun j g hg e => by
  have := findZ_le r nm j g hg e
  omega
theorem rename_err {f : Fd} {r : List Fd} {b : ByteArray} (hr : rightF (f :: r) = true) (he : makeE (f :: r) (chN f.s b) ≠ 0) : nameB b = false ∨ 0 < findZ (f :: r) b := by
  rcases Bool.eq_false_or_eq_true (nameB b) with hb | hb
  · right
    refine Int.not_le.1 fun hz => he ?_
    refine makeN hr (by simp [findZ]) ?_
    rw [newN]
    have hh := (rightF_may hr).2
    have hnr : findZ r b < 0 := by
      rcases Int.lt_or_le (findZ r b) 0 with h | h
      · exact h
      · exfalso
        rw [findZ] at hz
        split at hz
        · rename_i e
          have hg := findZ_ge r b
          obtain ⟨g, hgx⟩ : ∃ g, r[(findZ r b).toNat]? = some g := ⟨_, List.getElem?_eq_getElem (by omega)⟩
          have hgs : g.s = b := by
            by_cases hc : g.s = b
            · exact hc
            · exfalso
              obtain ⟨k, hk, hall⟩ : ∃ k : Nat, findZ r b = k ∧ ∀ g', r[k]? = some g' → g'.s = b := by
                clear hr he hh e hgx hc
                induction r with
                | nil => simp [findZ] at h
                | cons x t ih =>
                  rw [findZ] at h ⊢
                  split
                  · rename_i e; exact ⟨0, rfl, fun g' hg' => by simp at hg'; rw [← hg']; exact e⟩
                  · rename_i e
                    rw [if_neg e] at h
                    split at h
                    · omega
                    · rename_i e2
                      rw [if_neg e2]
                      obtain ⟨k, hk, hall⟩ := ih (by omega) (findZ_ge t b)
                      exact ⟨k + 1, by omega, fun g' hg' => hall g' (by simpa using hg')⟩
              have hk2 : (findZ r b).toNat = k := by omega
              rw [hk2] at hgx
              exact hc (hall g hgx)
          have h2 := (rightF_ok hr (k := (findZ r b).toNat + 1) (f := g) (by simpa using hgx)).2.2
          rw [findZ, if_pos (by rw [hgs]; exact e)] at h2
          omega
        · rw [if_neg (by omega)] at hz
          omega
    rw [rightF_end (fs := ⟨b, f.k, f.l⟩ :: r)]
    · simpa using hh
    · intro i g hi hg
      cases i with
      | zero =>
        simp at hg
        subst hg
        have h0 := rightF_ok hr (k := 0) (f := f) rfl
        simp [okF, hb, h0.2.1, findZ]
      | succ i =>
        have hg' : r[i]? = some g := by simpa using hg
        have h1 := rightF_ok hr (k := i + 1) (f := g) (by simpa using hg)
        have hne := find_nil hnr i g hg'
        have h3 := h1.2.2
        rw [findZ] at h3
        split at h3
        · omega
        · simp only [okF, h1.1, h1.2.1, Bool.and_self, Bool.true_and, decide_eq_true_eq]
          rw [findZ, if_neg (fun e => hne e.symm)]
          exact h3
  · exact .inl hb
theorem rename_back {f : Fd} {r : List Fd} {b : ByteArray} (h : makeE (f :: r) (chN f.s b) = 0) : makeE (newF (f :: r) (chN f.s b)) (chN b f.s) = 0 ∧ newF (newF (f :: r) (chN f.s b)) (chN b f.s) = f :: r := by
  obtain ⟨-, hr, hf, -⟩ := makeE_right h
  rw [newN] at hf ⊢
  have e : newF (⟨b, f.k, f.l⟩ :: r) (chN b f.s) = f :: r := newN ⟨b, f.k, f.l⟩ r f.s
  exact ⟨makeN hf (by simp [findZ]) (by rw [e]; exact hr), e⟩
end Go.Proofs.Ytehcpjodkadfnaa
/- ChangeBack, walked: it tells true. -/
set_option linter.unusedSimpArgs false
set_option linter.unusedVariables false
set_option maxRecDepth 100000
namespace Go.Proofs.Ytehcpjodkadfnaa
open Go.RowKit Go.Lib

/-- a row of numbers of our own, from its block's start on -/
def IRow (w : World) (bd : Addr) (q : List Int) : Prop := bd = ⟨bd.block, 0, none⟩ ∧ OBox w bd.block (cellsI q) 3
theorem IRow.below {w w1 : World} {bd : Addr} {q : List Int} (h : IRow w bd q) (hb : Below w.heap.size w w1) : IRow w1 bd q := ⟨h.1, h.2.below hb⟩
theorem IRow.lt {w : World} {bd : Addr} {q : List Int} (h : IRow w bd q) : bd.block < w.heap.size := h.2.lt
theorem IRow.add {w : World} {bd : Addr} {q : List Int} (h : IRow w bd q) (i : Nat) : bd.add i = ⟨bd.block, i, none⟩ := by
  rw [h.1]; simp [Addr.add]; try omega
theorem IRow.at {w : World} {bd : Addr} {q : List Int} (h : IRow w bd q) {i : Nat} {u : Int} (hi : q[i]? = some u) : w.cell? (bd.add i) = some (.int .i64 u) ∧ w.frozen? (bd.add i) = false := by
  rw [h.add]
  exact ⟨h.2.cell (by simp [cellsI, hi]), h.2.frz i⟩
theorem IRow.rd {w : World} {bd : Addr} {q : List Int} (h : IRow w bd q) : Rd w (some bd) (cellsI q) := fun _ => ⟨bd, rfl, fun j u hj => by rw [h.add]; exact h.2.cell hj⟩
theorem IRow.set {w : World} {bd : Addr} {q : List Int} (h : IRow w bd q) (i : Nat) (v : Int) : IRow (w.setCell (bd.add i) (.int .i64 v)) bd (q.set i v) := by
  refine ⟨h.1, ?_⟩
  rw [h.add]
  show (w.heap.modify bd.block _)[bd.block]? = _
  obtain ⟨hlt, hk⟩ := Array.getElem?_eq_some_iff.1 h.2
  rw [Array.getElem?_eq_getElem (by rw [Array.size_modify]; exact hlt), Array.getElem_modify_self, hk]
  simp [cellsI, List.map_set]
theorem made_ints (m : Nat) : madeCells (Value.int .i64 0).cells m = (cellsI (List.replicate m 0)).toArray := by
  rw [← Array.toList_inj]
  simp [madeCells, cellsI, Value.cells, Nat.mod_one, List.map_const']
/-- 'make([]int, m)' -/
theorem make_ints (m : Nat) (h : m ≤ 1000) (w : World) : (Instr.makeSlice 28 (.int .i64 (m : Int)) (.int .i64 (m : Int))).run Try.prog w = .ok (.slice (some ⟨w.heap.size, 0, none⟩) m m) (w.alloc (.cells (cellsI (List.replicate m 0)).toArray 3)) := by
  obtain ⟨i0, hi, hz0, hz1, hz2⟩ := info_parts infoI
  have := run_make (P := Try.prog) w 28 3 i0 _ Try.underlying28 hi hz0 .i64 .i64 m m (by omega) (Int.le_refl _) (by rw [hz2]; omega) (by omega)
  rw [this, hz1]
  have e : madeCells (Value.int .i64 0).cells ((m : Int).toNat * 1) = (cellsI (List.replicate m 0)).toArray := by rw [Nat.mul_one]; exact made_ints m
  rw [e]
  simp
theorem rng_nodup (n : Nat) : (rng n).Nodup := by
  rw [rng, List.Nodup, List.pairwise_map]
  exact List.nodup_range.imp fun h e => h (by omega)
theorem perm_nodup {q : List Int} {n : Nat} (h : permB q n = true) : q.Nodup := (of_decide_eq_true h).nodup_iff.2 (rng_nodup n)
/-- the row of places, filled so far -/
theorem back_step {q back : List Int} {i p m : Nat} (hq : permB q m = true) (h : BackOk q back i) (hi : q[i]? = some (p : Int)) (hp : p < back.length) : BackOk q (back.set p i) (i + 1) := by
  intro j x hj hx
  rcases (by omega : j < i ∨ j = i) with h1 | rfl
  · have hne : p ≠ x := by
      rintro rfl
      have hjl : j < q.length := (List.getElem?_eq_some_iff.1 hx).1
      have := (List.getElem?_inj hjl (perm_nodup hq)).1 (hx.trans hi.symm)
      omega
    rw [List.getElem?_set_ne hne]
    exact h j x h1 hx
  · rw [hi] at hx
    simp at hx
    have : p = x := by omega
    subst this
    rw [List.getElem?_set_self hp]
end Go.Proofs.Ytehcpjodkadfnaa
/- ChangeBack, walked: it tells true. -/
set_option linter.unusedSimpArgs false
set_option linter.unusedVariables false
set_option maxRecDepth 100000
namespace Go.Proofs.Ytehcpjodkadfnaa
open Go.RowKit Go.Lib

set_option maxHeartbeats 4000000 in
theorem ChangeBack_no (A : Option Addr) (cA : Nat) (l : List Fd) (m : Nat) (hm : l.length = m) (hmc : m ≤ cA) (hl : m ≤ 9223372036854775807) (hs : ∀ f ∈ l, f.s.size ≤ 281474976710656) (Q : Option Addr) (q : List Int) (n qc : Nat) (hn : q.length = n) (hqc : n ≤ qc) (hqm : qc ≤ maxLen) (nb : ByteArray) (hnb : nb.size ≤ maxLen) (w : World) (hA : Rd w A (cellsF l)) (RQ : Rd w Q (cellsI q)) (r y1 y2 : Bool) (hr : rightF l = r) (h1 : decide ((40 : Int) < (n : Int)) = y1) (h2 : decide ((100 : Int) < (nb.size : Int)) = y2) (hx : ¬ (r = true ∧ y1 = false ∧ y2 = false)) :
    Calls Try.prog 4 #[.slice A m cA, .slice Q n qc, .string nb] w fun e w' => e = .returned (.bool true) ∧ Below w.heap.size w w' := by
  have HB := Below.refl w.heap.size w
  have HM := Lib.hid hm
  have HN := Lib.hid hn
  have HR := Lib.hid hr
  clear hm hn hr
  go_enter Try.func4, Try.ntmps4
  cases r <;> cases y1 <;> cases y2
  all_goals first | (exact absurd ⟨rfl, rfl, rfl⟩ hx) | skip
  all_goals clear hx
  all_goals go_wp2_with (first
    | (go_at_call 8; refine (few_m A cA l m HM.out none 0 [] 0 rfl _ hA (Rd.nil _ _) (by simp) hs (by simp) hl (by omega)).mono ?_; rintro e W1 ⟨rf, rfl, hrf, hb⟩; have HRF := Lib.hid hrf; replace HB := HB.trans (hb.mono HB.size); replace hA := hA.below hb; replace RQ := RQ.below hb; clear hrf hb)
    | (go_at_call 17; refine (rRight_m A cA m l HM.out _ HR.out _ hA hl (by intro f hf; have := hs f hf; omega)).mono ?_; rintro e wR ⟨rfl, hb⟩; replace HB := HB.trans (hb.mono HB.size); replace hA := hA.below hb; replace RQ := RQ.below hb; clear hb)
    | (go_at_call 9; refine (alive_calls8 _).mono ?_; rintro e wM ⟨rfl, hb⟩; replace HB := HB.trans (hb.mono HB.size); replace hA := hA.below hb; replace RQ := RQ.below hb; clear hb))
  all_goals go_ret
  all_goals exact ⟨rfl, HB⟩
set_option maxHeartbeats 4000000 in
theorem ChangeBack_main (A : Option Addr) (cA : Nat) (l : List Fd) (m : Nat) (hm : l.length = m) (hmc : m ≤ cA) (hl : m ≤ 9223372036854775807) (hs : ∀ f ∈ l, f.s.size ≤ 281474976710656) (Q : Option Addr) (q : List Int) (n qc : Nat) (hn : q.length = n) (hqc : n ≤ qc) (hqm : qc ≤ maxLen) (nb : ByteArray) (hnb : nb.size ≤ maxLen) (w : World) (hA : Rd w A (cellsF l)) (RQ : Rd w Q (cellsI q)) (hr : rightF l = true) (hn40 : n ≤ 40) (hn100 : nb.size ≤ 100) :
    Calls Try.prog 4 #[.slice A m cA, .slice Q n qc, .string nb] w fun e w' => e = .returned (.bool true) ∧ Below w.heap.size w w' := by
  have hA0 := hA
  have RQ0 := RQ
  have HB := Below.refl w.heap.size w
  have h1 : decide ((40 : Int) < (n : Int)) = false := by simp; omega
  have h2 : decide ((100 : Int) < (nb.size : Int)) = false := by simp; omega
  obtain ⟨e1, he1⟩ : ∃ e, makeE l (chO q) = e := ⟨_, rfl⟩
  have HM := Lib.hid hm
  have HN := Lib.hid hn
  have HR := Lib.hid hr
  have HE1 := Lib.hid he1
  clear hm hn hr he1
  go_enter Try.func4, Try.ntmps4
  go_upto_region 4 with (first
    | (go_at_call 8; refine (few_m A cA l m HM.out none 0 [] 0 rfl _ hA (Rd.nil _ _) (by simp) hs (by simp) hl (by omega)).mono ?_; rintro e W1 ⟨rf, rfl, hrf, hb⟩; have HRF := Lib.hid hrf; replace HB := HB.trans (hb.mono HB.size); replace hA := hA.below hb; replace RQ := RQ.below hb; clear hrf hb)
    | (go_at_call 17; refine (rRight_m A cA m l HM.out _ HR.out _ hA hl (by intro f hf; have := hs f hf; omega)).mono ?_; rintro e wR ⟨rfl, hb⟩; replace HB := HB.trans (hb.mono HB.size); replace hA := hA.below hb; replace RQ := RQ.below hb; clear hb)
    | (go_at_call 9; refine (alive_calls8 _).mono ?_; rintro e wM ⟨rfl, hb⟩; replace HB := HB.trans (hb.mono HB.size); replace hA := hA.below hb; replace RQ := RQ.below hb; clear hb)
    | (go_at_call 12; refine (Apply_m l (chO q) m HM.out hl A cA hmc Q n qc HN.out (by omega) hqc (by show (-9223372036854775808 : Int) ≤ 5; decide) (by show (5 : Int) ≤ 9223372036854775807; decide) (by show (0 : Int) ≤ 0; decide) (by show (0 : Int) < 18446744073709551616; decide) _ hA RQ).mono ?_))
  · rintro e W3 ⟨B, d, rfl, hd, RB, hb⟩
    rw [HE1.out]
    replace HB := HB.trans (hb.mono HB.size)
    replace hA := hA.below hb
    replace RQ := RQ.below hb
    have HSM : m ≤ 40 := by have h3 := HRF.out (by assumption); have h5 := HM.out; omega
    clear hb h1 h2
    obtain ⟨nz, hnz⟩ : ∃ x, (makeT l (chO q)).n.length = x := ⟨_, rfl⟩
    rw [hnz] at hd ⊢
    have HNZ := Lib.hid hnz
    clear hnz
    go_upto_if 45 with fail
    go_cut [9, 10, 11, 12, 13] (fun _ _ _ _ _ wx => Below w.heap.size w wx)
    case first =>
      by_cases h0 : e1 = 0
      · subst h0
        obtain ⟨-, -, hf, hT⟩ := makeE_right HE1.out
        have hp := makeO_perm HE1.out
        obtain rfl : n = m := by have := perm_len hp; rw [HN.out, HM.out] at this; exact this
        obtain ⟨l2, hl2⟩ : ∃ x, newF l (chO q) = x := ⟨_, rfl⟩
        have hln : (makeT l (chO q)).n = l2 := by rw [hT]; exact hl2
        have hl2n : l2.length = n := by rw [← hl2, newO, List.length_map, HN.out]
        replace RB := RB.rd
        rw [hln] at RB
        obtain rfl : n = nz := by rw [← HNZ.out, hln, hl2n]
        have hmk := make_ints n (by omega)
        have HL2 := Lib.hid hl2
        have HL2N := Lib.hid hl2n
        have HP := Lib.hid hp
        clear hf hT hp hln hl2 hl2n
        go_wp2
        clear hmk
        rename World => W1
        obtain ⟨bd, hbd⟩ : ∃ bd : Addr, (⟨W1.heap.size, 0, none⟩ : Addr) = bd := ⟨_, rfl⟩
        have V0 : IRow (W1.alloc (.cells (cellsI (List.replicate n 0)).toArray 3)) bd (List.replicate n 0) := by
          rw [← hbd]; exact ⟨rfl, OBox.new _ _ _⟩
        have HW0 : Below W1.heap.size W1 (W1.alloc (.cells (cellsI (List.replicate n 0)).toArray 3)) := below_new _
        have hbk : W1.heap.size ≤ bd.block := by rw [← hbd]; exact Nat.le_refl _
        rw [hbd]
        clear hbd
        go_loopw [6, 10, 11, 51] (fun _ _ _ i wr => ∃ (k : Nat) (bk : List Int), k ≤ n ∧ i = .int .i64 k ∧ IRow wr bd bk ∧ Hid (bk.length = n) ∧ Hid (BackOk q bk k) ∧ Below W1.heap.size W1 wr) (fun _ _ _ i _ => n - (intOf i).toNat)
        case atStart => exact ⟨0, _, by omega, rfl, V0, Lib.hid (by simp), Lib.hid (fun i p hi _ => absurd hi (by omega)), HW0⟩
        case round =>
          obtain ⟨k, bk, hk, rfl, VR, hbl, hbo, HW⟩ := hrel
          clear V0 HW0
          by_cases hlt : k < n
          · obtain ⟨x, hx⟩ : ∃ x, q[k]? = some x := ⟨_, List.getElem?_eq_getElem (by rw [HN.out]; exact hlt)⟩
            have hx0 := perm_mem HP.out (List.mem_of_getElem? hx)
            obtain ⟨p, rfl⟩ : ∃ p : Nat, x = (p : Int) := ⟨x.toNat, by omega⟩
            have hpn : p < n := by have := HM.out; omega
            have hp0 : (0 : Int) ≤ (p : Int) := by omega
            have hp1 : (p : Int) < (n : Int) := by omega
            have hk1 : (k : Int) < (n : Int) := by omega
            obtain ⟨ad, rfl, hc⟩ := (RQ.below HW).at (j := k) (u := .int .i64 (p : Int)) (by simp [cellsI, hx])
            obtain ⟨u, hu⟩ : ∃ u, bk[p]? = some u := ⟨_, List.getElem?_eq_getElem (by rw [hbl.out]; exact hpn)⟩
            obtain ⟨v0, v1⟩ := VR.at hu
            have HS := Lib.hid (back_step HP.out hbo.out hx (by rw [hbl.out]; exact hpn))
            have VS := VR.set p (k : Int)
            have HWS := HW.setCell (p := bd.add p) (by rw [VR.add]; exact hbk) (.int .i64 (k : Int))
            have hbs : (bk.set p (k : Int)).length = n := by rw [List.length_set]; exact hbl.out
            clear hx hx0 hu
            go_wp2
            go_roundw
            case rel =>
              refine ⟨_, _, _, _, _, _, _, _, _, _, _, _, _, _, _, _, _, _, _, _, _, ⟨k + 1, _, by omega, ?_, VS, Lib.hid hbs, HS, HWS⟩, rfl⟩
              go_num
            case measure => simp [intOf]; omega
          · obtain rfl : k = n := by omega
            obtain ⟨hz, hnew⟩ := order_back (back := bk) HE1.out (by rw [hbl.out, HM.out]) (by rw [HN.out]; exact hbo.out)
            rw [HL2.out] at hz hnew
            have hT2 : (makeT l2 (chO bk)).n = l := by rw [(makeE_right hz).2.2.2]; exact hnew
            have HZ := Lib.hid hz
            have HT2 := Lib.hid hT2
            have RBr := RB.below HW
            have RI := VR.rd
            have hAr := hA.below HW
            clear hz hnew hT2
            go_wp2_with (go_at_call 12; refine (Apply_m l2 (chO bk) k HL2N.out hl B d hd (some bd) k k hbl.out (by omega) (Nat.le_refl _) (by show (-9223372036854775808 : Int) ≤ 5; decide) (by show (5 : Int) ≤ 9223372036854775807; decide) (by show (0 : Int) ≤ 0; decide) (by show (0 : Int) < 18446744073709551616; decide) _ RBr RI).mono ?_)
            rintro e W5 ⟨B2, d2, rfl, hd2, RB2, hb5⟩
            rw [HT2.out] at hd2 RB2 ⊢
            rw [HM.out] at hd2 ⊢
            rw [HZ.out]
            have HW5 := HW.trans (hb5.mono HW.size)
            have RB3 := RB2.rd
            have hA5 := hAr.below hb5
            clear hb5 RB2 RBr RI hAr VR
            go_wp2_with (go_at_call 15; refine (Same6_m B2 A d2 cA k k l l HM.out HM.out true (by simp [sameFB]) _ RB3 hA5 hl hl).mono ?_; rintro e W6 ⟨rfl, hb6⟩)
            go_meet
            exact HB.trans ((HW5.trans (hb6.mono HW5.size)).mono HB.size)
      · have y3 : (e1 == 0) = false := by simpa using h0
        go_wp2
        go_meet
        exact HB
    case rest =>
      clear HB hA RQ RB hd HE1
      have hA := hA0.below hcut
      have RQ := RQ0.below hcut
      have HB := hcut
      clear hcut
      rcases l with _ | ⟨f, r⟩
      · obtain rfl : m = 0 := by have := HM.out; simp at this; omega
        go_wp2_with (first
          | (go_at_call 9; refine (alive_calls8 _).mono ?_; rintro e wM ⟨rfl, hb⟩; replace HB := HB.trans (hb.mono HB.size); replace hA := hA.below hb; replace RQ := RQ.below hb; clear hb))
        go_ret
        exact ⟨rfl, HB⟩
      · have hm1 : 0 < m := by have := HM.out; simp at this; omega
        have y5 : ((m : Int) == 0) = false := by simp; omega
        have hi1 : (0 : Int) < (m : Int) := by omega
        obtain ⟨ad, rfl, f0, f1, f2⟩ := hA.fld (k := 0) rfl
        simp only [Nat.zero_mul, Addr.add_zero'] at f0 f1 f2
        obtain ⟨e3, he3⟩ : ∃ e, makeE (f :: r) (chN f.s nb) = e := ⟨_, rfl⟩
        have HE3 := Lib.hid he3
        clear he3
        go_wp2_with (first
          | (go_at_call 12; refine (Apply_m (f :: r) (chN f.s nb) m HM.out hl (some ad) cA hmc none 0 0 rfl (by omega) (Nat.le_refl _) (by show (-9223372036854775808 : Int) ≤ 3; decide) (by show (3 : Int) ≤ 9223372036854775807; decide) (by show (0 : Int) ≤ 0; decide) (by show (0 : Int) < 18446744073709551616; decide) _ hA (Rd.nil _ _)).mono ?_))
        rintro e W3 ⟨B, d, rfl, hd, RB, hb⟩
        rw [HE3.out]
        replace HB := HB.trans (hb.mono HB.size)
        replace hA := hA.below hb
        replace RQ := RQ.below hb
        clear hb f0 f1 f2
        by_cases h0 : e3 = 0
        · subst h0
          obtain ⟨-, -, hf, hT⟩ := makeE_right HE3.out
          obtain ⟨l2, hl2⟩ : ∃ x, newF (f :: r) (chN f.s nb) = x := ⟨_, rfl⟩
          have hln : (makeT (f :: r) (chN f.s nb)).n = l2 := by rw [hT]; exact hl2
          have hl2n : l2.length = m := by rw [← hl2, newN]; exact HM.out
          obtain ⟨hz, hnew⟩ := rename_back HE3.out
          rw [hl2] at hz hnew
          have hT2 : (makeT l2 (chN nb f.s)).n = f :: r := by rw [(makeE_right hz).2.2.2]; exact hnew
          rw [hln] at hd RB ⊢
          rw [hl2n] at hd ⊢
          have RBr := RB.rd
          obtain ⟨ad2, e2, f0, f1, f2⟩ := hA.fld (k := 0) rfl
          cases e2
          simp only [Nat.zero_mul, Addr.add_zero'] at f0 f1 f2
          have HL2 := Lib.hid hl2
          have HL2N := Lib.hid hl2n
          have HZ := Lib.hid hz
          have HT2 := Lib.hid hT2
          clear hf hT hln hl2 hl2n hz hnew hT2 RB
          go_wp2_with (go_at_call 12; refine (Apply_m l2 (chN nb f.s) m HL2N.out hl B d hd none 0 0 rfl (by omega) (Nat.le_refl _) (by show (-9223372036854775808 : Int) ≤ 3; decide) (by show (3 : Int) ≤ 9223372036854775807; decide) (by show (0 : Int) ≤ 0; decide) (by show (0 : Int) < 18446744073709551616; decide) _ RBr (Rd.nil _ _)).mono ?_)
          rintro e W5 ⟨B2, d2, rfl, hd2, RB2, hb5⟩
          rw [HT2.out] at hd2 RB2 ⊢
          rw [HM.out] at hd2 ⊢
          rw [HZ.out]
          replace HB := HB.trans (hb5.mono HB.size)
          replace hA := hA.below hb5
          replace RQ := RQ.below hb5
          have RB3 := RB2.rd
          clear hb5 RB2 RBr f0 f1 f2
          go_wp2_with (first
            | (go_at_call 9; refine (alive_calls8 _).mono ?_; rintro e wM ⟨rfl, hb⟩; replace HB := HB.trans (hb.mono HB.size); replace hA := hA.below hb; replace RB3 := RB3.below hb; clear hb)
            | (go_at_call 15; refine (Same6_m B2 (some ad) d2 cA m m (f :: r) (f :: r) HM.out HM.out true (by simp [sameFB]) _ RB3 hA hl hl).mono ?_; rintro e W6 ⟨rfl, hb⟩; replace HB := HB.trans (hb.mono HB.size); clear hb))
          all_goals go_ret
          all_goals exact ⟨rfl, HB⟩
        · have y6 : (e3 != 0) = true := by simpa using h0
          obtain ⟨b1, hb1⟩ : ∃ x, nameB nb = x := ⟨_, rfl⟩
          obtain ⟨z1, hz1⟩ : ∃ x, findZ (f :: r) nb = x := ⟨_, rfl⟩
          have hor := rename_err (b := nb) HR.out (by rw [HE3.out]; exact h0)
          rw [hb1, hz1] at hor
          have y7 : b1 = true → decide ((0 : Int) < z1) = true := fun h => by
            rcases hor with h' | h'
            · rw [h] at h'; cases h'
            · simpa using h'
          have HB1 := Lib.hid hb1
          have HZ1 := Lib.hid hz1
          have HY7 := Lib.hid y7
          clear hb1 hz1 hor y7 h0 RB hd
          cases b1
          · go_wp2_with (first
              | (go_at_call 9; refine (alive_calls8 _).mono ?_; rintro e wM ⟨rfl, hb⟩; replace HB := HB.trans (hb.mono HB.size); replace hA := hA.below hb; replace RQ := RQ.below hb; clear hb)
              | (go_at_call 18; refine (rName_is nb (by omega) _ HB1.out _).mono ?_; rintro e W6 ⟨rfl, hb⟩; replace HB := HB.trans (hb.mono HB.size); clear hb))
            all_goals go_ret
            all_goals exact ⟨rfl, HB⟩
          · have y8 := HY7.out rfl
            go_wp2_with (first
              | (go_at_call 9; refine (alive_calls8 _).mono ?_; rintro e wM ⟨rfl, hb⟩; replace HB := HB.trans (hb.mono HB.size); replace hA := hA.below hb; replace RQ := RQ.below hb; clear hb)
              | (go_at_call 18; refine (rName_is nb (by omega) _ HB1.out _).mono ?_; rintro e W6 ⟨rfl, hb⟩; replace HB := HB.trans (hb.mono HB.size); replace hA := hA.below hb; replace RQ := RQ.below hb; clear hb)
              | (go_at_call 19; refine (rFind_m (some ad) cA m (f :: r) HM.out nb z1 HZ1.out _ hA hl).mono ?_; rintro e W6 ⟨rfl, rfl⟩))
            all_goals go_ret
            all_goals exact ⟨rfl, HB⟩
  · go_ret
    exact ⟨rfl, HB⟩
theorem ChangeBack_row (A : Option Addr) (cA : Nat) (l : List Fd) (Q : Option Addr) (q : List Int) (qc : Nat) (nb : ByteArray) (w : World) (hA : Rd w A (cellsF l)) (hmc : l.length ≤ cA) (hz : (∀ f ∈ l, f.s.size ≤ 281474976710656) ∧ l.length ≤ 281474976710656)
    (RQ : Rd w Q (cellsI q)) (hqc : q.length ≤ qc) (hqm : qc ≤ maxLen) (hqz : q.length ≤ 281474976710656) (hnb : nb.size ≤ maxLen) :
    Calls Try.prog 4 #[.slice A l.length cA, .slice Q q.length qc, .string nb] w fun e w' => e = .returned (.bool true) ∧ Below w.heap.size w w' := by
  by_cases h : rightF l = true ∧ q.length ≤ 40 ∧ nb.size ≤ 100
  · exact ChangeBack_main A cA l l.length rfl hmc (by omega) hz.1 Q q q.length qc rfl hqc hqm nb hnb w hA RQ h.1 h.2.1 h.2.2
  · refine ChangeBack_no A cA l l.length rfl hmc (by omega) hz.1 Q q q.length qc rfl hqc hqm nb hnb w hA RQ _ _ _ rfl rfl rfl ?_
    rintro ⟨h1, h2, h3⟩
    have h2' := of_decide_eq_false h2
    have h3' := of_decide_eq_false h3
    exact h ⟨h1, by omega, by omega⟩
end Go.Proofs.Ytehcpjodkadfnaa
/- The law ChangeBack: WHATEVER THE INPUT it tells true, it never panics, and the input reads as it did: the row, out of ChangeBack_calls. -/
set_option linter.unusedVariables false
set_option linter.unusedSimpArgs false
set_option maxRecDepth 100000
namespace Go.Proofs.Ytehcpjodkadfnaa.changeBack
open Go.ChangeShapes Go.WideShapes Go.ChangeAt Go.RowKit Go.Joins
open Go.ChangeMaps (open_string shut_string)
theorem own : ownKnob Try.prog.godebug = none := by kernel_rfl
theorem laidOut : laidOutB Try.prog = true := by kernel_rfl
set_option maxRecDepth 100000 in
theorem lifted (os : Os) (started : os.Started) (H : Type) (enc : TypeId × Value → H) :
    ReturnsInHanded {} Try.checked os 4 .any (Rows.changeBackSpec.pre6 enc Try.prog Try.f4 Rows.changeBackRow.domain false) (Rows.changeBackSpec.post enc Try.prog Try.f4 false true false false) := by
  refine returnsInHanded_of_change_sized (C := Try.checked) own started (by kernel_rfl) Try.func4
    (ChangeSpec.witness6 (enc := enc) (C := Try.checked) false ⟨#[], #[.slice none 0 0, .slice none 0 0, .string ByteArray.empty], []⟩ 8 (by kernel_rfl) (by kernel_rfl) (by kernel_rfl) (by kernel_rfl)) ?_
  intro W base args ds gs before hval0 hW hcnd hsz0 _
  have hval : ∀ (j : Nat) t v, Try.f4.params[j]? = some t → args[j]? = some v → Value.okWide Try.prog W .any base t v := hval0
  have hW' := hW
  obtain ⟨p, q, hA0, hV, rfl, hfz, hnd⟩ := hW
  have hA : DataW.TrodAll enc Try.prog W 0 (fun _ => true) true Try.f4.params.toList args.toList ds p := hA0
  rw [Try.params4] at hA hval
  obtain ⟨v0, vs0, d0, ds0, p0, q0, hargs, rfl, rfl, h0, r0⟩ := trodAll_cons hA
  obtain ⟨v1, vs1, d1, ds1, p1, q1, rfl, rfl, rfl, h1, r1⟩ := trodAll_cons r0
  obtain ⟨v2, vs2, d2, ds2, p2, q2, rfl, rfl, rfl, h2, r2⟩ := trodAll_cons r1
  obtain ⟨rfl, rfl, rfl⟩ := trodAll_nil r2
  obtain rfl : args = #[v0, v1, v2] := by cases args; simp_all
  obtain ⟨rfl, rfl⟩ := trodVars_none hV
  have k0 := h0
  have lt0 : ∀ x ∈ p0, x.block < W.heap.size := by obtain ⟨m, hm⟩ := k0; exact DataW.trod_lt m _ _ _ hm
  obtain ⟨a0, c0, l0, rfl, e0, f0, g0, s0, z0⟩ := open_fldsz (hval 0 22 v0 rfl rfl) h0
  replace z0 := z0 (SzT.of hsz0 (j := 0) rfl rfl)
  have k1 := h1
  have lt1 : ∀ x ∈ p1, x.block < W.heap.size := by obtain ⟨m, hm⟩ := k1; exact DataW.trod_lt m _ _ _ hm
  obtain ⟨a1, b1, c1, rfl, e1, f1, g1, z1⟩ := open_intsz (hval 1 28 v1 rfl rfl) h1
  replace z1 := z1 (SzT.of hsz0 (j := 1) rfl rfl)
  obtain ⟨a2, rfl, rfl, rfl, w2⟩ := open_string Try.underlying9 (hval 2 9 v2 rfl rfl) h2
  clear hA0 hval0 hsz0
  refine (ChangeBack_row a0 c0 l0 a1 b1 c1 a2 W g0 e0 z0 g1 e1 f1 z1 w2).mono fun e W' ⟨he, bel⟩ => ?_
  subst he
  exact ⟨_, rfl, _, _, _, [], _, [], hW', trodAll_mk1 (shut_bool Try.underlying4 _), (trodAll_cons_mk (Below.trod laidOut (by kernel_rfl) (of_decide_eq_true (by kernel_rfl)) k0 bel lt0) (trodAll_cons_mk (Below.trod laidOut (by kernel_rfl) (of_decide_eq_true (by kernel_rfl)) k1 bel lt1) (trodAll_cons_mk (shut_string Try.underlying9 w2) trodAll_mk0))), rfl, bel.frame _, fun h => by cases h⟩
theorem over : Rows.changeBackRow.holds Try.pinned (OpenSpec.ofChange Rows.changeBackSpec) :=
  OpenClaim.holds_of_wide 4 Try.f4 rfl rfl rfl rfl rfl rfl rfl ⟨rfl, rfl, rfl, rfl, rfl⟩ rfl rfl rfl rfl rfl (by kernel_rfl) Try.func4 (by kernel_rfl)
    (of_decide_eq_true (by kernel_rfl)) (by unfold Func.isWrapper; first | (rw [if_pos (by decide +kernel)]; kernel_rfl) | (rw [if_neg (by decide +kernel)]; exact ⟨rfl, rfl⟩))
    (fun os started H enc _ => lifted os started H enc)
theorem proved : Rows.ChangeBackSaid := over
end Go.Proofs.Ytehcpjodkadfnaa.changeBack
namespace Go.Proofs.Ytehcpjodkadfnaa
/-- The row, under a short name, for the claim. -/
theorem changeBack_holds : Rows.ChangeBackSaid := changeBack.proved
end Go.Proofs.Ytehcpjodkadfnaa
