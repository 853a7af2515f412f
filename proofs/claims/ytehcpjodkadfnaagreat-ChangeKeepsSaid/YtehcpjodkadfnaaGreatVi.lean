/- Merged out of: Qj Qs Qk. -/
import Derived.Test.YtehcpjodkadfnaaGreatVh
/- Layer 8 of the heap, changes: many, one behind the other, as the program makes them. -/
set_option linter.unusedSimpArgs false
set_option linter.unusedVariables false
set_option maxRecDepth 100000
namespace Go.Proofs.YtehcpjodkadfnaaGreat
open Go.RowKit Go.Lib

/-- a row whose first cell is none of a box's lies elsewhere -/
theorem Rd.ne {w : World} {A : Option Addr} {cs bs : List Value} {b : Nat} {T : TypeId} (h : Rd w A cs) (hb : OBox w b bs T) (hd : ∀ u, cs[0]? = some u → u ∉ bs) : RdP (fun g => g ≠ b) w A cs := fun hn => by
  obtain ⟨ad, e, hc⟩ := h hn
  refine ⟨ad, e, ?_, hc⟩
  rintro rfl
  cases cs with
  | nil => exact hn rfl
  | cons u r =>
    have h0 := hc 0 u rfl
    have e0 : ad.add 0 = ad := rfl
    rw [e0] at h0
    unfold World.cell? at h0
    have hb' : w.heap[ad.block]? = some (.cells bs.toArray T (0, 0)) := hb
    rw [hb'] at h0
    simp only at h0
    split at h0
    · cases h0
    · have h1 : bs[ad.off]? = some u := by simpa using h0
      exact hd u rfl (List.mem_of_getElem? h1)
theorem cellsF_head {l : List Fd} {u : Value} (h : (cellsF l)[0]? = some u) : ∃ s, u = .string s := by
  cases l with
  | nil => cases h
  | cons f r => exact ⟨f.s, by simp [cellsF] at h; exact h.symm⟩
theorem cellsM_head {l : List Mv} {u : Value} (h : (cellsM l)[0]? = some u) : ∃ s, u = .int .i64 s := by
  cases l with
  | nil => cases h
  | cons f r => exact ⟨f.f, by simp [cellsM] at h; exact h.symm⟩
theorem RdF.set3 {w : World} {A : Option Addr} {l : List Fd} {b : Nat} {P0 P1 P2 : Option Addr} {n0 n1 n2 c0 c1 c2 : Nat} {T : TypeId} (h : Rd w A (cellsF l)) (hb : OBox w b [.slice P0 n0 c0, .slice P1 n1 c1, .slice P2 n2 c2] T) (x y z : Value) : Rd (((w.setCell ⟨b, 0, none⟩ x).setCell ⟨b, 1, none⟩ y).setCell ⟨b, 2, none⟩ z) A (cellsF l) :=
  ((h.ne hb (fun u hu => by obtain ⟨s, rfl⟩ := cellsF_head hu; simp)).set3 b (fun g hg => hg) 0 1 2 x y z).rd
theorem RdM.set3 {w : World} {A : Option Addr} {l : List Mv} {b : Nat} {P0 P1 P2 : Option Addr} {n0 n1 n2 c0 c1 c2 : Nat} {T : TypeId} (h : Rd w A (cellsM l)) (hb : OBox w b [.slice P0 n0 c0, .slice P1 n1 c1, .slice P2 n2 c2] T) (x y z : Value) : Rd (((w.setCell ⟨b, 0, none⟩ x).setCell ⟨b, 1, none⟩ y).setCell ⟨b, 2, none⟩ z) A (cellsM l) :=
  ((h.ne hb (fun u hu => by obtain ⟨s, rfl⟩ := cellsM_head hu; simp)).set3 b (fun g hg => hg) 0 1 2 x y z).rd
/-- names that are no longer than may be -/
def NmS (l : List Fd) : Prop := ∀ f ∈ l, f.s.size ≤ 281474976710656
theorem NmS.fds {l : List Fd} (h : NmS l) : FdS l := fun f hf => Nat.le_trans (h f hf) (by decide)
theorem newF_names {l : List Fd} {c : Ch} (h : NmS l) (hg : c.g.s.size ≤ 281474976710656) : NmS (newF l c) := by
  intro f hf
  unfold newF at hf
  split at hf
  · rcases List.mem_append.1 hf with h1 | h1
    · exact h f h1
    · simp at h1; subst h1; exact hg
  · split at hf
    · exact h f (List.mem_of_mem_eraseIdx hf)
    · split at hf
      · obtain ⟨i, hi⟩ := List.mem_iff_getElem?.1 hf
        rw [List.getElem?_modify] at hi
        cases hx : l[i]? with
        | none => rw [hx] at hi; cases hi
        | some x =>
          rw [hx] at hi
          have hi2 : (if atC l c = i then (⟨c.g.s, x.k, x.l⟩ : Fd) else x) = f := Option.some.inj hi
          split at hi2
          · subst hi2; exact hg
          · subst hi2; exact h _ (List.mem_of_getElem? hx)
      · split at hf
        · obtain ⟨i, hi⟩ := List.mem_iff_getElem?.1 hf
          rw [List.getElem?_modify] at hi
          cases hx : l[i]? with
          | none => rw [hx] at hi; cases hi
          | some x =>
            rw [hx] at hi
            have hi2 : (if atC l c = i then (⟨x.s, c.g.k, c.g.l⟩ : Fd) else x) = f := Option.some.inj hi
            split at hi2
            · subst hi2; exact h x (List.mem_of_getElem? hx)
            · subst hi2; exact h _ (List.mem_of_getElem? hx)
        · obtain ⟨n, _, rfl⟩ := List.mem_map.1 hf
          cases hx : l[n.toNat]? with
          | none => show (Fd.z).s.size ≤ _; exact Nat.zero_le _
          | some x => exact h x (List.mem_of_getElem? hx)
theorem newM_wo {l : List Fd} {c : Ch} (x0 : 0 ≤ c.d.b) (x1 : c.d.b < 18446744073709551616) : MvW (newM l c) := by
  unfold newM
  split
  · exact w_add (kM_w _) x0 x1
  · split
    · exact w_del (kM_w _) _
    · split
      · exact w_ord _
      · exact kM_w _
/-- a table that may be, with what the walks ask -/
structure TOk (t : Tb) : Prop where
  r : rightT t = true
  w : MvW t.m
  o : NmS t.o
  n : NmS t.n
theorem TOk.keep {l : List Fd} (h : rightF l = true) (hn : NmS l) : TOk (keepT l) := by
  rw [keepT_right h]
  exact ⟨keep_right h, kM_w _, hn, hn⟩
theorem TOk.make {l : List Fd} {c : Ch} (h : makeE l c = 0) (hn : NmS l) (hg : c.g.s.size ≤ 281474976710656) (x0 : 0 ≤ c.d.b) (x1 : c.d.b < 18446744073709551616) : TOk (makeT l c) := by
  obtain ⟨h1, h2, h3, h4⟩ := makeE_right h
  rw [h4] at h1 ⊢
  exact ⟨h1, newM_wo x0 x1, hn, newF_names hn hg⟩
theorem TOk.comp {a b : Tb} (ha : TOk a) (hb : TOk b) (h : composeE a b = 0) : TOk (composeT a b) := by
  obtain ⟨h1, h2, h3⟩ := composeE_right h
  rw [h3]
  exact ⟨h2, compM_w ha.w hb.w _, ha.o, hb.n⟩
theorem composeE_ways (a b : Tb) : composeE a b = 0 ∨ composeE a b = 70 := by unfold composeE; split <;> simp
theorem composeT_err {a b : Tb} (h : ¬ composeE a b = 0) : composeT a b = Tb.z := by rw [composeT, if_neg h]
theorem goT_make {t : Tb} {c : Ch} {r : List Ch} (h : ¬ makeE t.n c = 0) : goT t (c :: r) = (Tb.z, makeE t.n c) := by rw [goT, if_neg h]
theorem goT_comp {t : Tb} {c : Ch} {r : List Ch} (h : makeE t.n c = 0) (h2 : ¬ composeE t (makeT t.n c) = 0) : goT t (c :: r) = (Tb.z, 70) := by rw [goT, if_pos h, if_neg h2]
theorem goT_next {t : Tb} {c : Ch} {r : List Ch} (h : makeE t.n c = 0) (h2 : composeE t (makeT t.n c) = 0) : goT t (c :: r) = goT (composeT t (makeT t.n c)) r := by rw [goT, if_pos h, if_pos h2]
theorem makeE_all (l : List Fd) (c : Ch) : makeE l c = 0 ∨ makeE l c = 60 ∨ makeE l c = 61 ∨ makeE l c = 80 := by
  unfold makeE stepE
  (repeat' split) <;> simp
/-- what the walks ask of a change -/
def ChW (p : Ch × Value) : Prop := (-9223372036854775808 ≤ p.1.op ∧ p.1.op ≤ 9223372036854775807) ∧ (0 ≤ p.1.d.b ∧ p.1.d.b < 18446744073709551616) ∧ p.1.q.length ≤ 4398046511104 ∧ p.1.g.s.size ≤ 281474976710656
end Go.Proofs.YtehcpjodkadfnaaGreat
/- Layers 7 and 8 of the heap, tables: the table that changes nothing, as the program makes it, of a right row: with what its old row may hold. -/
set_option linter.unusedSimpArgs false
set_option linter.unusedVariables false
set_option maxRecDepth 100000
namespace Go.Proofs.YtehcpjodkadfnaaGreat
open Go.RowKit

set_option maxHeartbeats 4000000 in
theorem TSame_cap (A : Option Addr) (c m : Nat) (l : List Fd) (hm : l.length = m) (hr : rightF l = true) (w : World) (hA : Rd w A (cellsF l)) (hl : m ≤ 9223372036854775807) (hc : m ≤ c) :
    Calls Tryz.prog 22 #[.slice A m c] w fun e w' => ∃ B d v2 v3 b1 b2, e = .returned (.agg #[.slice B m d, v2, v3]) ∧ m ≤ d ∧ w.heap.size ≤ b1 ∧ b1 ≤ b2 ∧ b2 ≤ w'.heap.size ∧ RdB b1 w' B (cellsF l) ∧ (∀ ad, B = some ad → w.heap.size ≤ ad.block ∧ ad.block < b1) ∧ w'.ownsRow b1 29 3 v2 m (cellsF l) ∧ OwnLt b2 v2 ∧ w'.ownsRow b2 61 4 v3 m (cellsM (kM m)) ∧ Below w.heap.size w w' := by
  obtain ⟨i0, hi, hz0, hz1, hz2⟩ := info_parts infoMv
  have h16 : m ≤ 16 := by rw [← hm]; exact (rightF_may hr).2
  have hb1 := below_new (w := w) (.cells #[.slice none 0 0, .slice none 0 0, .slice none 0 0] 36)
  have R := OBox.new w [.slice none 0 0, .slice none 0 0, .slice none 0 0] 36
  have HB := hb1
  replace hA := hA.below hb1
  have HM := Lib.hid hm
  have HR := Lib.hid hr
  have tok1 := True.intro
  clear hm hr hb1
  go_enter Tryz.func22, Tryz.ntmps22
  go_wp2_with (first
    | (go_at_call 21; refine (Right_m A c m l HM.out true HR.out _ hA hl).mono ?_; rintro e W1 ⟨rfl, hb⟩; replace HB := HB.trans (hb.mono HB.size); replace R := R.below hb; replace hA := hA.below hb; have hz1W : w.heap.size + 1 ≤ W1.heap.size := R.lt; clear hb)
    | (have _t := tok1; go_at_call 46; refine (CloneF_m A c m l HM.out _ hA (by omega) hc).mono ?_; rintro e W2 ⟨B, d, rfl, hd, own1, hb⟩; replace HB := HB.trans (hb.mono HB.size); replace R := R.below hb; replace hA := hA.below hb; have hz12 := HB.size; have h12 := hb.size; clear hb tok1; have tok2 := True.intro)
    | (have _t := tok2; go_at_call 46; refine (CloneF_m A c m l HM.out _ hA (by omega) hc).mono ?_; rintro e W3 ⟨B2, d2, rfl, hd2, own2, hb3⟩; replace HB := HB.trans (hb3.mono HB.size); replace R := R.below hb3; clear hA tok2))
  have O := OBox.new W3 [.slice B m d, .slice B2 m d2, .slice none 0 0] 36
  have hb2 := below_new (w := W3) (.cells #[.slice B m d, .slice B2 m d2, .slice none 0 0] 36)
  have hzW : w.heap.size < W3.heap.size := R.lt
  have h23 := hb3.size
  have lt1 : OwnLt W2.heap.size (.slice B m d) := own_lt own1
  have own1' := own_mono (own_below (own_below own1 hb3) hb2) hz1W
  have own2' := own_below own2 hb2
  have lt2 : OwnLt W3.heap.size (.slice B2 m d2) := own_lt own2
  have R0 := R.below hb2
  have HB0 := HB.trans (hb2.mono HB.size)
  clear hb2 HB R own1 own2 hb3
  go_loopw [4, 16] (fun i j wr => ∃ (k : Nat) (v : Value), k ≤ m ∧ j = .int .i64 k ∧ wr.ownsRow (W3.heap.size + 1) 61 4 v k (cellsM (kM k)) ∧ OBox wr W3.heap.size [.slice B m d, .slice B2 m d2, v] 36 ∧ OBox wr w.heap.size [.slice none 0 0, .slice none 0 0, .slice none 0 0] 36 ∧ Below w.heap.size w wr ∧ W3.heap.size < wr.heap.size ∧ wr.ownsRow (w.heap.size + 1) 29 3 (.slice B m d) m (cellsF l) ∧ wr.ownsRow W2.heap.size 29 3 (.slice B2 m d2) m (cellsF l)) (fun _ i _ => m - (intOf i).toNat)
  case atStart => exact ⟨0, _, by omega, rfl, own_nil _ _ _ _, O, R0, HB0, by simp, own1', own2'⟩
  case round =>
    obtain ⟨k, v, hk, rfl, hown, O, R, HB, hz, own1, own2⟩ := hrel
    clear R0 HB0
    by_cases hlt : k < m
    · have HK := Lib.hid (kM_succ k)
      obtain ⟨k0, k1, k2, f0, f1, f2⟩ := (O.below (below_new (w := wr) (.cells #[.int .i64 k, .int .i64 0, .int .u64 0, .string ⟨#[]⟩] 61))).f3
      obtain ⟨q0, q1, q2, p0, p1, p2⟩ := O.f3
      go_wp2_with (at_builtin; refine wpList_append_own _ rfl _ _ 34 rfl (W3.heap.size + 1) 61 i0 (.agg #[.int .i64 0, .int .i64 0, .int .u64 0, .string ⟨#[]⟩]) 4 40 Tryz.underlying34 hi hz0 hz1 hz2 rfl (by decide) _ _ _ rfl (hown.alloc _) ⟨wr.heap.size, 0, none⟩ 1 1 [.int .i64 k, .int .i64 0, .int .u64 0, .string ⟨#[]⟩] rfl rfl ?c1 ?c2 ?c3 ?c4 ?c5 ?_)
      case c1 => exact news4 _ _ _ _ _ _
      case c2 => intro u hu; simp at hu; rcases hu with rfl | rfl | rfl | rfl <;> rfl
      case c3 => simp only [maxLen]; omega
      case c4 => omega
      case c5 => simp; omega
      intro v' w3 hown' hgrow _
      have BG : Below (W3.heap.size + 1) wr w3 := ((Below.refl _ _).alloc (by omega) (.cells #[.int .i64 k, .int .i64 0, .int .u64 0, .string ⟨#[]⟩] 61)).grown hgrow (by simp; omega) (fun q hq => own_base hown q hq)
      have O3 : OBox w3 W3.heap.size [.slice B m d, .slice B2 m d2, v] 36 := (BG.block _ (by omega)).trans O
      have R3 : OBox w3 w.heap.size [.slice none 0 0, .slice none 0 0, .slice none 0 0] 36 := (BG.block _ (by omega)).trans R
      have HB3 := HB.trans (BG.mono (by omega))
      have hown3 : w3.ownsRow (W3.heap.size + 1) 61 4 v' (k + 1) (cellsM (kM (k + 1))) := own_eq hown' (by simp) (by rw [HK.out, cellsM_append]; rfl)
      have hz3 := BG.size
      obtain ⟨B', c', rfl, _, _, _⟩ := own_rd hown3
      clear hown' hgrow hown k0 k1 k2 f0 f1 f2 q0 q1 q2 p0 p1 p2
      obtain ⟨k0, k1, k2, f0, f1, f2⟩ := O3.f3
      go_wp2
      go_roundw
      case rel =>
        have BS : Below W3.heap.size wr (w3.setCell ⟨W3.heap.size, 2, none⟩ (.slice B' (k + 1) c')) := (BG.mono (Nat.le_succ _)).setCell (Nat.le_refl _) _
        exact ⟨k + 1, _, by omega, by go_num, ownsRow_setCell_below hown3 (by show _ < _; simp) _, obox_set O3 2 _, (Below.heap_setCell _ _ _ _ (by show _ ≠ _; simp; omega)).trans R3, HB3.setCell (by show _ ≤ _; simp; omega) _, by simp; omega, own_belowB own1 lt1 (BS.mono h23), own_belowB own2 lt2 BS⟩
      case measure => simp [intOf]; omega
    · obtain rfl : k = m := by omega
      obtain ⟨B', c', rfl, _, _, _⟩ := own_rd hown
      obtain ⟨k0, k1, k2, f0, f1, f2⟩ := O.f3
      obtain ⟨q0, q1, q2, p0, p1, p2⟩ := R.f3
      go_wp2
      refine bodyPost_ret (v := .agg #[.slice B k d, .slice B2 k d2, .slice B' k c']) (by simp [results, Tryz.results22, go_sem, *]; done) rfl ⟨B, d, _, _, W2.heap.size, W3.heap.size, rfl, hd, hz12, h23, ?_, ?_, ?_, ?_, lt2, ?_, ?_⟩
      · simp; omega
      · refine RdB.own (ownsRow_setCell_below (ownsRow_setCell_below (ownsRow_setCell_below own1 ?_ _) ?_ _) ?_ _) lt1 <;> (show _ < _; simp)
      · intro ad e; have := own_base own1 ad.block (by rw [e]; rfl); have := lt1 ad.block (by rw [e]; rfl); omega
      · refine ownsRow_setCell_below (ownsRow_setCell_below (ownsRow_setCell_below own2 ?_ _) ?_ _) ?_ _ <;> (show _ < _; simp; omega)
      · refine own_mono (ownsRow_setCell_below (ownsRow_setCell_below (ownsRow_setCell_below hown ?_ _) ?_ _) ?_ _) (Nat.le_succ _) <;> (show _ < _; simp; omega)
      · (repeat (first | exact HB | refine Below.setCell ?_ (by dsimp only; omega) _ | refine Below.alloc ?_ (by have hs_ := HB.size; first | (simp; done) | (simp; omega) | omega) _ | apply Below.drew))
end Go.Proofs.YtehcpjodkadfnaaGreat
/- Layer 8 of the heap, changes: many, one behind the other, as the program makes them: walked. -/
set_option linter.unusedSimpArgs false
set_option linter.unusedVariables false
set_option maxRecDepth 100000
namespace Go.Proofs.YtehcpjodkadfnaaGreat
open Go.RowKit Go.Lib

set_option maxHeartbeats 4000000 in
theorem All_no (l : List Fd) (m : Nat) (hm : l.length = m) (hl : m ≤ 9223372036854775807) (A : Option Addr) (cA : Nat) (hcA : m ≤ cA) (K : Option Addr) (cK nc : Nat) (cs : List (Ch × Value)) (hnc : cs.length = nc) (hk : nc ≤ 9223372036854775807) (hn : NmS l) (hw : ∀ p ∈ cs, ChW p) (w : World) (hA : Rd w A (cellsF l)) (hK : Rd w K (cellsC cs)) (ho : ∀ p ∈ cs, ChO w p) (hr : rightF l = false) :
    Calls Tryz.prog 8 #[.slice A m cA, .slice K nc cK] w fun e w' => CoP Tb.z 60 w e w' := by
  have nb := below_new (w := w) (.cells #[.slice none 0 0, .slice none 0 0, .slice none 0 0] 36)
  have R := OBox.new w [.slice none 0 0, .slice none 0 0, .slice none 0 0] 36
  have HB := nb
  have hA1 := hA.below nb
  have HM := Lib.hid hm; have HR := Lib.hid hr
  clear nb hm hr hw ho hK hnc
  go_enter Tryz.func8, Tryz.ntmps8
  go_wp2_with (go_at_call 21; refine (Right_m A cA m l HM.out false HR.out _ hA1 hl).mono ?_; rintro e W1 ⟨rfl, hb⟩; replace HB := HB.trans (hb.mono HB.size); replace R := R.below hb; obtain ⟨q0, q1, q2, q3, q4, q5⟩ := R.f3; clear hb)
  refine bodyPost_ret (v := .tuple #[.agg #[.slice none 0 0, .slice none 0 0, .slice none 0 0], .int .i64 60]) (by simp [results, Tryz.results8, go_sem, *]; done) rfl ⟨none, 0, none, 0, none, 0, rfl, Nat.le_refl _, Nat.le_refl _, fun h => absurd rfl h, fun h => absurd rfl h, fun h => absurd rfl h, ?_⟩
  (repeat (first | exact HB | refine Below.setCell ?_ (by dsimp only; omega) _ | refine Below.alloc ?_ (by have hs_ := HB.size; first | (simp; done) | (simp; omega) | omega) _ | apply Below.drew))
set_option maxHeartbeats 4000000 in
theorem All_yes (l : List Fd) (m : Nat) (hm : l.length = m) (hl : m ≤ 9223372036854775807) (A : Option Addr) (cA : Nat) (hcA : m ≤ cA) (K : Option Addr) (cK nc : Nat) (cs : List (Ch × Value)) (hnc : cs.length = nc) (hk : nc ≤ 9223372036854775807) (hn : NmS l) (hw : ∀ p ∈ cs, ChW p) (w : World) (hA : Rd w A (cellsF l)) (hK : Rd w K (cellsC cs)) (ho : ∀ p ∈ cs, ChO w p) (hr : rightF l = true) (T : Tb) (code : Int) (hT : goT (keepT l) (cs.map (·.1)) = (T, code)) :
    Calls Tryz.prog 8 #[.slice A m cA, .slice K nc cK] w fun e w' => CoP T code w e w' := by
  have hk0 := keepT_right hr
  have tk := TOk.keep hr hn
  have nb := below_new (w := w) (.cells #[.slice none 0 0, .slice none 0 0, .slice none 0 0] 36)
  have R := OBox.new w [.slice none 0 0, .slice none 0 0, .slice none 0 0] 36
  have HB := nb
  have hA1 := hA.below nb
  have HM := Lib.hid hm; have HR := Lib.hid hr; have HNC := Lib.hid hnc; have HT := Lib.hid hT; have HK0 := Lib.hid hk0; have TK := Lib.hid tk; have HW := Lib.hid hw; have HO := Lib.hid ho
  clear nb hm hr hnc hT hk0 tk hw ho hn
  go_enter Tryz.func8, Tryz.ntmps8
  go_upto_region 4 with (first
    | (go_at_call 21; refine (Right_m A cA m l HM.out true HR.out _ hA1 hl).mono ?_; rintro e W1 ⟨rfl, hb⟩; replace HB := HB.trans (hb.mono HB.size); replace R := R.below hb; replace hA1 := hA1.below hb; clear hb)
    | (go_at_call 22; refine (TSame_cap A cA m l HM.out HR.out _ hA1 hl hcA).mono ?_; rintro e W2 ⟨B, d, v2, v3, b1, b2, rfl, hd, hb1, hb12, hb2, R1, hBl, own2, lt2, own3, hbS⟩; obtain ⟨X1, z1, rfl, u1, u2, r1⟩ := own_rd own2; obtain ⟨X2, z2, rfl, u4, u5, r2⟩ := own_rd own3; have hz := hbS.size; replace HB := HB.trans (hbS.mono HB.size); replace R := R.below hbS))
  have TB := OBox.new W2 [.slice B m d, .slice X1 m z1, .slice X2 m z2] 36
  have nb2 := below_new (w := W2) (.cells #[.slice B m d, .slice X1 m z1, .slice X2 m z2] 36)
  have RR := R.below nb2
  have HB0 := HB.trans (nb2.mono HB.size)
  have r0 := R1.rd.below nb2
  replace r1 := r1.below nb2
  replace r2 := r2.below nb2
  have hq0 := R.lt
  generalize W2.alloc (.cells #[.slice B m d, .slice X1 m z1, .slice X2 m z2] 36) = W3 at *
  obtain ⟨q, hq⟩ : ∃ q, W2.heap.size = q := ⟨_, rfl⟩
  rw [hq] at TB hq0 ⊢
  have HQ := Lib.hid hq0
  clear hq hq0 nb2 R HB R1 hBl own2 lt2 own3 hbS hb1 hb12 hb2 hz u2 u4 u5 hA1
  clear W2 W1 b1 b2
  go_wp2
  go_loopw [8, 9, 10, 19] (fun _ _ _ i wr => ∃ (j : Nat) (t : Tb) (no nn nm : Nat) (Y0 : Option Addr) (y0 : Nat) (Y1 : Option Addr) (y1 : Nat) (Y2 : Option Addr) (y2 : Nat), j ≤ nc ∧ i = .int .i64 j ∧ Hid (t.o.length = no) ∧ Hid (t.n.length = nn) ∧ Hid (t.m.length = nm) ∧ OBox wr q [.slice Y0 no y0, .slice Y1 nn y1, .slice Y2 nm y2] 36 ∧ no ≤ y0 ∧ nn ≤ y1 ∧ Rd wr Y0 (cellsF t.o) ∧ Rd wr Y1 (cellsF t.n) ∧ Rd wr Y2 (cellsM t.m) ∧ Hid (TOk t) ∧ Hid (goT t ((cs.drop j).map (·.1)) = (T, code)) ∧ OBox wr w.heap.size [.slice none 0 0, .slice none 0 0, .slice none 0 0] 36 ∧ Below w.heap.size w wr) (fun _ _ _ i _ => nc - (intOf i).toNat)
  case atStart => exact ⟨0, keepT l, m, m, m, _, _, _, _, _, _, by omega, rfl, Lib.hid (by rw [HK0.out]; exact HM.out), Lib.hid (by rw [HK0.out]; exact HM.out), Lib.hid (by rw [HK0.out]; show (kM l.length).length = m; rw [kM_length]; exact HM.out), TB, hd, u1, by rw [HK0.out]; exact r0, by rw [HK0.out]; exact r1, by rw [HK0.out]; show Rd _ _ (cellsM (kM l.length)); rw [HM.out]; exact r2, TK, HT, RR, HB0⟩
  case round =>
    obtain ⟨j, t, no, nn, nm, Y0, y0, Y1, y1, Y2, y2, hj, rfl, HNO, HNN, HNM, TB, hy0, hy1, r0, r1, r2, HTK, HG, R, HB⟩ := hrel
    clear RR HB0 TK HT
    by_cases hlt : j < nc
    · obtain ⟨⟨c, pv⟩, hp⟩ : ∃ p, cs[j]? = some p := ⟨_, List.getElem?_eq_getElem (by rw [HNC.out]; exact hlt)⟩
      obtain ⟨⟨p0, p1⟩, ⟨x0, x1⟩, hq4, hgs⟩ : (-9223372036854775808 ≤ c.op ∧ c.op ≤ 9223372036854775807) ∧ (0 ≤ c.d.b ∧ c.d.b < 18446744073709551616) ∧ c.q.length ≤ 4398046511104 ∧ c.g.s.size ≤ 281474976710656 := HW.out _ (List.mem_of_getElem? hp)
      obtain ⟨Q, qc, ev, hqc, RQ⟩ : ∃ Q qc, pv = .slice Q c.q.length qc ∧ c.q.length ≤ qc ∧ Rd w Q (cellsI c.q) := by
        obtain ⟨Q, qc, h1, h2, _, h4⟩ := HO.out _ (List.mem_of_getElem? hp)
        exact ⟨Q, qc, h1, h2, h4⟩
      subst ev
      obtain ⟨ad, rfl, c0, c1, c2, c3, c4, c5, c6, c7, c8⟩ := (hK.below HB).ch hp
      dsimp only at c0 c1 c2 c3 c4 c5 c6 c7 c8
      have hgo : goT t (c :: (cs.drop (j + 1)).map (·.1)) = (T, code) := by
        rw [← HG.out, List.drop_eq_getElem_cons (show j < cs.length by rw [HNC.out]; exact hlt)]
        rw [List.getElem?_eq_getElem (by rw [HNC.out]; exact hlt)] at hp
        rw [List.map_cons, Option.some.inj hp]
      obtain ⟨n, hn⟩ : ∃ n, c.q.length = n := ⟨_, rfl⟩
      simp only [hn] at c8 hqc hq4
      obtain ⟨e0, he⟩ : ∃ e, makeE t.n c = e := ⟨_, rfl⟩
      obtain ⟨M, hM⟩ : ∃ M, makeT t.n c = M := ⟨_, rfl⟩
      have HN := Lib.hid hn; have HE := Lib.hid he; have HMK := Lib.hid hM; have HGO := Lib.hid hgo
      have hs16 : Hid (no ≤ 16 ∧ nn ≤ 16 ∧ nm ≤ 16) := Lib.hid (by have := rightT_16 HTK.out.r; rw [HNO.out, HNN.out, HNM.out] at this; exact this)
      have nbc := below_new (w := wr) (.cells #[.int .i64 c.op, .string c.s, .string c.g.s, .int .i64 c.g.k, .int .i64 c.g.l, .int .i64 c.d.k, .int .u64 c.d.b, .string c.d.t, .slice Q n qc] 57)
      have C : CBox (wr.alloc (.cells #[.int .i64 c.op, .string c.s, .string c.g.s, .int .i64 c.g.k, .int .i64 c.g.l, .int .i64 c.d.k, .int .u64 c.d.b, .string c.d.t, .slice Q n qc] 57)) wr.heap.size c (.slice Q n qc) 57 := OBox.new wr (chL c (.slice Q n qc)) 57
      have hj0 : (0 : Int) ≤ (j : Int) := by omega
      have hj1 : (j : Int) < (nc : Int) := by omega
      clear hn he hM hgo hp HG
      go_upto_region 7 with fail
      generalize wr.alloc (.cells #[.int .i64 c.op, .string c.s, .string c.g.s, .int .i64 c.g.k, .int .i64 c.g.l, .int .i64 c.d.k, .int .u64 c.d.b, .string c.d.t, .slice Q n qc] 57) = W4 at *
      clear c0 c1 c2 c3 c4 c5 c6 c7 c8
      obtain ⟨a0, a1, a2, a3, a4, a5, a6, a7, a8⟩ := C.c9
      have TB4 := TB.below nbc
      obtain ⟨t0, t1, t2, f0, f1, f2⟩ := TB4.f3
      have HB4 := HB.trans (nbc.mono HB.size)
      have RQ4 := RQ.below HB4
      have r14 := r1.below nbc
      have hs2 := hs16.out
      go_wp2_with (go_at_call 17; refine (Make_m t.n c nn HNN.out (by omega) Y1 y1 hy1 Q n qc HN.out hq4 hqc p0 p1 x0 x1 _ r14 RQ4).mono ?_)
      rw [HMK.out, HE.out]
      rintro e W5 ⟨U0, _, v0, U1, _, v1, U2, _, v2, rfl, hTV, hb5⟩
      obtain ⟨_, _, _, _, _, _, ev, hdU, s0', s1', s2'⟩ := hTV
      cases ev
      obtain ⟨mo, hmo⟩ : ∃ x, M.o.length = x := ⟨_, rfl⟩
      obtain ⟨mn, hmn⟩ : ∃ x, M.n.length = x := ⟨_, rfl⟩
      obtain ⟨mm, hmm⟩ : ∃ x, M.m.length = x := ⟨_, rfl⟩
      rw [hmn] at hdU
      rw [hmo, hmn, hmm]
      have HMO := Lib.hid hmo; have HMN := Lib.hid hmn; have HMM := Lib.hid hmm
      clear hmo hmn hmm a0 a1 a2 a3 a4 a5 a6 a7 a8 t0 t1 t2 f0 f1 f2 C RQ4 r14
      have nb6 := below_new (w := W5) (.cells #[.slice U0 mo v0, .slice U1 mn v1, .slice U2 mm v2] 36)
      have MB : OBox (W5.alloc (.cells #[.slice U0 mo v0, .slice U1 mn v1, .slice U2 mm v2] 36)) W5.heap.size [.slice U0 mo v0, .slice U1 mn v1, .slice U2 mm v2] 36 := OBox.new W5 _ _
      have hb6 := below_seq (below_seq nbc hb5) nb6
      have s0 := s0'.rd.below nb6
      have s1 := s1'.rd.below nb6
      have s2 := s2'.rd.below nb6
      clear s0' s1' s2' HB4 TB4 nbc
      go_upto_region 8 with fail
      generalize W5.alloc (.cells #[.slice U0 mo v0, .slice U1 mn v1, .slice U2 mm v2] 36) = W6 at *
      have TB6 := TB.below hb6
      have R6 := R.below hb6
      have HB6 := HB.trans (hb6.mono HB.size)
      have r06 := r0.below hb6
      have r16 := r1.below hb6
      have r26 := r2.below hb6
      obtain ⟨q0, q1, q2, g0, g1, g2⟩ := R6.f3
      clear r0 r1 r2 HB TB R hb5 nb6 hb6
      by_cases h0 : e0 = 0
      · subst h0
        obtain ⟨t0, t1, t2, f0, f1, f2⟩ := TB6.f3
        obtain ⟨m0, m1, m2, _, _, _⟩ := MB.f3
        have hMk : TOk M := by rw [← HMK.out]; exact TOk.make HE.out HTK.out.n hgs x0 x1
        have HMT := Lib.hid hMk
        have hm16 : Hid (mo ≤ 16 ∧ mn ≤ 16 ∧ mm ≤ 16) := Lib.hid (by have := rightT_16 hMk.r; rw [HMO.out, HMN.out, HMM.out] at this; exact this)
        clear hMk
        have hs3 := hm16.out
        go_wp2_with (go_at_call 23; refine (Compose_m t M Y0 Y1 Y2 U0 U1 U2 y0 y1 y2 v0 v1 v2 no nn nm mo mn mm HNO.out HNN.out HNM.out HMO.out HMN.out HMM.out (by omega) (by omega) (by omega) (by omega) (by omega) (by omega) HTK.out.w HMT.out.w _ r06 r16 r26 s0 s1 s2 hy0 hdU).mono ?_)
        obtain ⟨G, hG⟩ : ∃ G, composeT t M = G := ⟨_, rfl⟩
        obtain ⟨lo, hlo⟩ : ∃ x, G.o.length = x := ⟨_, rfl⟩
        obtain ⟨ln, hln⟩ : ∃ x, G.n.length = x := ⟨_, rfl⟩
        obtain ⟨lm, hlm⟩ : ∃ x, G.m.length = x := ⟨_, rfl⟩
        rw [hG]
        rintro e W7 ⟨V0, w0, V1, w1, V2, w2, rfl, hc0, hc1, a0, a1, a2, hb7⟩
        rw [hlo] at hc0
        rw [hln] at hc1
        rw [hlo, hln, hlm]
        have HGL := Lib.hid hlo; have HGN := Lib.hid hln; have HGM := Lib.hid hlm; have HGT := Lib.hid hG
        have TB7 := TB6.below hb7
        have R7 := R6.below hb7
        have HB7 := HB6.trans (hb7.mono HB6.size)
        clear hlo hln hlm hG q0 q1 q2 g0 g1 g2 t0 t1 t2 f0 f1 f2 m0 m1 m2 TB6 R6 HB6 r06 r16 r26 s0 s1 s2 hb7 MB
        obtain ⟨t0, t1, t2, f0, f1, f2⟩ := TB7.f3
        obtain ⟨q0, q1, q2, g0, g1, g2⟩ := R7.f3
        have hwq := HQ.out
        rcases composeE_ways t M with h2 | h2
        · rw [h2]
          have hG1 : TOk G := by rw [← HGT.out]; exact TOk.comp HTK.out HMT.out h2
          have hG2 : goT G ((cs.drop (j + 1)).map (·.1)) = (T, code) := by
            have h := HGO.out
            rw [goT_next HE.out (by rw [HMK.out]; exact h2), HMK.out, HGT.out] at h
            exact h
          have HG1 := Lib.hid hG1
          have HG2 := Lib.hid hG2
          clear hG1 hG2 h2
          go_wp2
          go_roundw
          case rel =>
            exact ⟨j + 1, G, lo, ln, lm, V0, w0, V1, w1, V2, w2, by omega, by go_num, HGL, HGN, HGM, obox_set (obox_set (obox_set TB7 0 (.slice V0 lo w0)) 1 (.slice V1 ln w1)) 2 (.slice V2 lm w2), hc0, hc1, RdF.set3 a0 TB7 _ _ _, RdF.set3 a1 TB7 _ _ _, RdM.set3 a2 TB7 _ _ _, HG1, HG2, OBox.far (OBox.far (OBox.far R7 (p := ⟨q, 0, none⟩) (by show q ≠ _; omega) _) (p := ⟨q, 1, none⟩) (by show q ≠ _; omega) _) (p := ⟨q, 2, none⟩) (by show q ≠ _; omega) _, ((HB7.setCell (p := ⟨q, 0, none⟩) (Nat.le_of_lt hwq) _).setCell (p := ⟨q, 1, none⟩) (Nat.le_of_lt hwq) _).setCell (p := ⟨q, 2, none⟩) (Nat.le_of_lt hwq) _⟩
          case measure => simp [intOf]; omega
        · rw [h2]
          obtain ⟨rfl, rfl⟩ : Tb.z = T ∧ 70 = code := by
            have h := HGO.out
            rw [goT_comp HE.out (by rw [HMK.out, h2]; decide)] at h
            exact ⟨congrArg Prod.fst h, congrArg Prod.snd h⟩
          clear h2
          go_wp2
          refine bodyPost_ret (v := .tuple #[.agg #[.slice none 0 0, .slice none 0 0, .slice none 0 0], .int .i64 70]) (by simp [results, Tryz.results8, go_sem, *]; done) rfl ⟨none, 0, none, 0, none, 0, rfl, Nat.le_refl _, Nat.le_refl _, fun h => absurd rfl h, fun h => absurd rfl h, fun h => absurd rfl h, ?_⟩
          have HB := HB7
          (repeat (first | exact HB | refine Below.setCell ?_ (by dsimp only; omega) _ | refine Below.alloc ?_ (by have hs_ := HB.size; first | (simp; done) | (simp; omega) | omega) _ | apply Below.drew))
      · have e1 : (e0 == 0) = false := by simpa using h0
        have e2 : (e0 != 0) = true := by simpa using h0
        obtain ⟨rfl, rfl⟩ : Tb.z = T ∧ e0 = code := by
          have h := HGO.out
          rw [goT_make (by rw [HE.out]; exact h0), HE.out] at h
          exact ⟨congrArg Prod.fst h, congrArg Prod.snd h⟩
        clear h0
        go_wp2
        refine bodyPost_ret (v := .tuple #[.agg #[.slice none 0 0, .slice none 0 0, .slice none 0 0], .int .i64 e0]) (by simp [results, Tryz.results8, go_sem, *]; done) rfl ⟨none, 0, none, 0, none, 0, rfl, Nat.le_refl _, Nat.le_refl _, fun h => absurd rfl h, fun h => absurd rfl h, fun h => absurd rfl h, ?_⟩
        have HB := HB6
        (repeat (first | exact HB | refine Below.setCell ?_ (by dsimp only; omega) _ | refine Below.alloc ?_ (by have hs_ := HB.size; first | (simp; done) | (simp; omega) | omega) _ | apply Below.drew))
    · obtain rfl : j = nc := by omega
      have h := HG.out
      rw [List.drop_of_length_le (by rw [HNC.out]; exact Nat.le_refl _)] at h
      have hT1 : t = T := congrArg Prod.fst h
      have hT2 : (0 : Int) = code := congrArg Prod.snd h
      subst hT1 hT2
      clear h HG
      obtain ⟨t0, t1, t2, f0, f1, f2⟩ := TB.f3
      obtain ⟨q0, q1, q2, g0, g1, g2⟩ := R.f3
      go_wp2
      refine bodyPost_ret (v := .tuple #[.agg #[.slice Y0 no y0, .slice Y1 nn y1, .slice Y2 nm y2], .int .i64 0]) (by simp [results, Tryz.results8, go_sem, *]; done) rfl ?_
      have e1 := HNO.out
      have e2 := HNN.out
      have e3 := HNM.out
      refine ⟨Y0, y0, Y1, y1, Y2, y2, by rw [e1, e2, e3], by rw [e1]; exact hy0, by rw [e2]; exact hy1, RdF.set3 r0 R _ _ _, RdF.set3 r1 R _ _ _, RdM.set3 r2 R _ _ _, ?_⟩
      (repeat (first | exact HB | refine Below.setCell ?_ (by dsimp only; omega) _ | refine Below.alloc ?_ (by have hs_ := HB.size; first | (simp; done) | (simp; omega) | omega) _ | apply Below.drew))
theorem All_m (l : List Fd) (m : Nat) (hm : l.length = m) (hl : m ≤ 9223372036854775807) (A : Option Addr) (cA : Nat) (hcA : m ≤ cA) (K : Option Addr) (cK nc : Nat) (cs : List (Ch × Value)) (hnc : cs.length = nc) (hk : nc ≤ 9223372036854775807) (hn : NmS l) (hw : ∀ p ∈ cs, ChW p) (w : World) (hA : Rd w A (cellsF l)) (hK : Rd w K (cellsC cs)) (ho : ∀ p ∈ cs, ChO w p) :
    Calls Tryz.prog 8 #[.slice A m cA, .slice K nc cK] w fun e w' => CoP (allT l (cs.map (·.1))).1 (allT l (cs.map (·.1))).2 w e w' := by
  cases hr : rightF l
  · rw [allT, if_neg (by rw [hr]; decide)]
    exact All_no l m hm hl A cA hcA K cK nc cs hnc hk hn hw w hA hK ho hr
  · rw [allT, if_pos hr]
    exact All_yes l m hm hl A cA hcA K cK nc cs hnc hk hn hw w hA hK ho hr _ _ rfl
end Go.Proofs.YtehcpjodkadfnaaGreat
