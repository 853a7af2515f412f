/- Merged out of: Nc Nd Ne. -/
import Derived.Test.YtehcpjodkadfnaaGreatUp
import Derived.Deep.RegionLaw
import Derived.Deep.MidRow
import Derived.ChangeKeysEq
import Derived.Lib.SliceRun
import Derived.Laws.IdiomCopy
/- Layers 7 and 8 of the heap, tables: the table that changes nothing, as the program makes it, of a right row. -/
set_option linter.unusedSimpArgs false
set_option linter.unusedVariables false
set_option maxRecDepth 100000
namespace Go.Proofs.YtehcpjodkadfnaaGreat
open Go.RowKit

/-- what cells hold, from an address on, in a block below a number -/
def RdB (b : Nat) (w : World) (A : Option Addr) (cs : List Value) : Prop := cs ≠ [] → ∃ ad, A = some ad ∧ ad.block < b ∧ ∀ j u, cs[j]? = some u → w.cell? (ad.add j) = some u
theorem RdB.rd {b : Nat} {w : World} {A : Option Addr} {cs : List Value} (h : RdB b w A cs) : Rd w A cs := fun hn => by
  obtain ⟨ad, e, _, hc⟩ := h hn; exact ⟨ad, e, hc⟩
theorem RdB.below {b : Nat} {w w1 : World} {A : Option Addr} {cs : List Value} (h : RdB b w A cs) (hb : Below b w w1) : RdB b w1 A cs := fun hn => by
  obtain ⟨ad, e, hl, hc⟩ := h hn
  refine ⟨ad, e, hl, fun j u hj => (hb.cell ?_).trans (hc j u hj)⟩
  have : (ad.add j).block = ad.block := by unfold Addr.add; split <;> rfl
  rw [this]; exact hl
theorem RdB.mk {w w1 : World} {A : Option Addr} {cs : List Value} (h : Rd w A cs) (hb : Below w.heap.size w w1) {b : Nat} (hl : w.heap.size ≤ b) : RdB b w1 A cs := fun hn => by
  obtain ⟨ad, e, hc⟩ := h.below hb hn
  obtain ⟨ad', e', hc'⟩ := h hn
  rw [e] at e'; cases e'
  refine ⟨ad, e, ?_, hc⟩
  cases cs with
  | nil => exact absurd rfl hn
  | cons u r =>
    have h0 := World.block_lt_of_cell? w _ (hc' 0 u rfl)
    have : (ad.add 0).block = ad.block := by unfold Addr.add; split <;> rfl
    rw [this] at h0; omega
/-- the block that a slice owns lies below a number -/
def OwnLt (b : Nat) (v : Value) : Prop := ∀ k, v.ownBlock = some k → k < b
theorem own_keep {w w1 : World} {base : Nat} {e : TypeId} {size n : Nat} {v : Value} {xs : List Value} (h : w.ownsRow base e size v n xs) (hk : ∀ g, v.ownBlock = some g → w1.heap[g]? = w.heap[g]?) : w1.ownsRow base e size v n xs := by
  obtain ⟨h1, h2⟩ := h
  refine ⟨h1, ?_⟩
  rcases h2 with h2 | ⟨g, cap, cur, rfl, hg, hh, r⟩
  · exact .inl h2
  · exact .inr ⟨g, cap, cur, rfl, hg, (hk g (by simp [Value.ownBlock])).trans hh, r⟩
theorem own_belowB {w w1 : World} {base B : Nat} {e : TypeId} {size n : Nat} {v : Value} {xs : List Value} (h : w.ownsRow base e size v n xs) (hl : OwnLt B v) (hb : Below B w w1) : w1.ownsRow base e size v n xs :=
  own_keep h fun g hg => hb.block g (hl g hg)
theorem RdB.own {w : World} {base b n m c : Nat} {e : TypeId} {size : Nat} {A : Option Addr} {xs : List Value} (h : w.ownsRow base e size (.slice A m c) n xs) (hl : OwnLt b (.slice A m c)) : RdB b w A xs := by
  obtain ⟨A', c', e1, _, _, hr⟩ := own_rd h
  cases e1
  intro hn
  obtain ⟨ad, rfl, hc⟩ := hr hn
  exact ⟨ad, rfl, hl _ (by simp [Value.ownBlock]), hc⟩
theorem OwnLt.mono {b b' : Nat} {v : Value} (h : OwnLt b v) (hb : b ≤ b') : OwnLt b' v := fun k hk => by have := h k hk; omega
theorem CloneF_m (A : Option Addr) (c m : Nat) (l : List Fd) (hm : l.length = m) (w : World) (hA : Rd w A (cellsF l)) (hl : m ≤ 4398046511104) (hlc : m ≤ c) :
    Calls Tryz.prog 46 #[.slice A m c] w fun e w' => ∃ B d, e = .returned (.slice B m d) ∧ m ≤ d ∧ w'.ownsRow w.heap.size 29 3 (.slice B m d) m (cellsF l) ∧ Below w.heap.size w w' := by
  subst hm
  refine (CloneF_calls A c l w hA hl hlc).mono ?_
  rintro e w' ⟨v, rfl, ho, hb⟩
  obtain ⟨B, d, rfl, hd, _, _⟩ := own_rd ho
  exact ⟨B, d, rfl, hd, ho, hb⟩
set_option maxHeartbeats 4000000 in
theorem TSame_yes (A : Option Addr) (c m : Nat) (l : List Fd) (hm : l.length = m) (hr : rightF l = true) (w : World) (hA : Rd w A (cellsF l)) (hl : m ≤ 9223372036854775807) (hc : m ≤ c) :
    Calls Tryz.prog 22 #[.slice A m c] w fun e w' => ∃ B d v2 v3 b1 b2, e = .returned (.agg #[.slice B m d, v2, v3]) ∧ w.heap.size ≤ b1 ∧ b1 ≤ b2 ∧ b2 ≤ w'.heap.size ∧ RdB b1 w' B (cellsF l) ∧ (∀ ad, B = some ad → w.heap.size ≤ ad.block ∧ ad.block < b1) ∧ w'.ownsRow b1 29 3 v2 m (cellsF l) ∧ OwnLt b2 v2 ∧ w'.ownsRow b2 61 4 v3 m (cellsM (kM m)) ∧ Below w.heap.size w w' := by
  obtain ⟨i0, hi, hz0, hz1, hz2⟩ := info_parts infoMv
  have h16 : m ≤ 16 := by rw [← hm]; exact (rightF_may hr).2
  have hb1 := below_new (w := w) (.cells #[.slice none 0 0, .slice none 0 0, .slice none 0 0] 36)
  have R := OBox.new w [.slice none 0 0, .slice none 0 0, .slice none 0 0] 36
  have HB := hb1
  replace hA := hA.below hb1
  have HM := Lib.hid hm
  have HR := Lib.hid hr
  have tok1 := True.intro
  clear hm hr hb1
  go_enter Tryz.func22, Tryz.ntmps22
  go_wp2_with (first
    | (go_at_call 21; refine (Right_m A c m l HM.out true HR.out _ hA hl).mono ?_; rintro e W1 ⟨rfl, hb⟩; replace HB := HB.trans (hb.mono HB.size); replace R := R.below hb; replace hA := hA.below hb; have hz1W : w.heap.size + 1 ≤ W1.heap.size := R.lt; clear hb)
    | (have _t := tok1; go_at_call 46; refine (CloneF_m A c m l HM.out _ hA (by omega) hc).mono ?_; rintro e W2 ⟨B, d, rfl, hd, own1, hb⟩; replace HB := HB.trans (hb.mono HB.size); replace R := R.below hb; replace hA := hA.below hb; have hz12 := HB.size; have h12 := hb.size; clear hb tok1; have tok2 := True.intro)
    | (have _t := tok2; go_at_call 46; refine (CloneF_m A c m l HM.out _ hA (by omega) hc).mono ?_; rintro e W3 ⟨B2, d2, rfl, hd2, own2, hb3⟩; replace HB := HB.trans (hb3.mono HB.size); replace R := R.below hb3; clear hA tok2))
  have O := OBox.new W3 [.slice B m d, .slice B2 m d2, .slice none 0 0] 36
  have hb2 := below_new (w := W3) (.cells #[.slice B m d, .slice B2 m d2, .slice none 0 0] 36)
  have hzW : w.heap.size < W3.heap.size := R.lt
  have h23 := hb3.size
  have lt1 : OwnLt W2.heap.size (.slice B m d) := own_lt own1
  have own1' := own_mono (own_below (own_below own1 hb3) hb2) hz1W
  have own2' := own_below own2 hb2
  have lt2 : OwnLt W3.heap.size (.slice B2 m d2) := own_lt own2
  have R0 := R.below hb2
  have HB0 := HB.trans (hb2.mono HB.size)
  clear hb2 HB R own1 own2 hb3
  go_loopw [4, 16] (fun i j wr => ∃ (k : Nat) (v : Value), k ≤ m ∧ j = .int .i64 k ∧ wr.ownsRow (W3.heap.size + 1) 61 4 v k (cellsM (kM k)) ∧ OBox wr W3.heap.size [.slice B m d, .slice B2 m d2, v] 36 ∧ OBox wr w.heap.size [.slice none 0 0, .slice none 0 0, .slice none 0 0] 36 ∧ Below w.heap.size w wr ∧ W3.heap.size < wr.heap.size ∧ wr.ownsRow (w.heap.size + 1) 29 3 (.slice B m d) m (cellsF l) ∧ wr.ownsRow W2.heap.size 29 3 (.slice B2 m d2) m (cellsF l)) (fun _ i _ => m - (intOf i).toNat)
  case atStart => exact ⟨0, _, by omega, rfl, own_nil _ _ _ _, O, R0, HB0, by simp, own1', own2'⟩
  case round =>
    obtain ⟨k, v, hk, rfl, hown, O, R, HB, hz, own1, own2⟩ := hrel
    clear R0 HB0
    by_cases hlt : k < m
    · have HK := Lib.hid (kM_succ k)
      obtain ⟨k0, k1, k2, f0, f1, f2⟩ := (O.below (below_new (w := wr) (.cells #[.int .i64 k, .int .i64 0, .int .u64 0, .string ⟨#[]⟩] 61))).f3
      obtain ⟨q0, q1, q2, p0, p1, p2⟩ := O.f3
      go_wp2_with (at_builtin; refine wpList_append_own _ rfl _ _ 34 rfl (W3.heap.size + 1) 61 i0 (.agg #[.int .i64 0, .int .i64 0, .int .u64 0, .string ⟨#[]⟩]) 4 40 Tryz.underlying34 hi hz0 hz1 hz2 rfl (by decide) _ _ _ rfl (hown.alloc _) ⟨wr.heap.size, 0, none⟩ 1 1 [.int .i64 k, .int .i64 0, .int .u64 0, .string ⟨#[]⟩] rfl rfl ?c1 ?c2 ?c3 ?c4 ?c5 ?_)
      case c1 => exact news4 _ _ _ _ _ _
      case c2 => intro u hu; simp at hu; rcases hu with rfl | rfl | rfl | rfl <;> rfl
      case c3 => simp only [maxLen]; omega
      case c4 => omega
      case c5 => simp; omega
      intro v' w3 hown' hgrow _
      have BG : Below (W3.heap.size + 1) wr w3 := ((Below.refl _ _).alloc (by omega) (.cells #[.int .i64 k, .int .i64 0, .int .u64 0, .string ⟨#[]⟩] 61)).grown hgrow (by simp; omega) (fun q hq => own_base hown q hq)
      have O3 : OBox w3 W3.heap.size [.slice B m d, .slice B2 m d2, v] 36 := (BG.block _ (by omega)).trans O
      have R3 : OBox w3 w.heap.size [.slice none 0 0, .slice none 0 0, .slice none 0 0] 36 := (BG.block _ (by omega)).trans R
      have HB3 := HB.trans (BG.mono (by omega))
      have hown3 : w3.ownsRow (W3.heap.size + 1) 61 4 v' (k + 1) (cellsM (kM (k + 1))) := own_eq hown' (by simp) (by rw [HK.out, cellsM_append]; rfl)
      have hz3 := BG.size
      obtain ⟨B', c', rfl, _, _, _⟩ := own_rd hown3
      clear hown' hgrow hown k0 k1 k2 f0 f1 f2 q0 q1 q2 p0 p1 p2
      obtain ⟨k0, k1, k2, f0, f1, f2⟩ := O3.f3
      go_wp2
      go_roundw
      case rel =>
        have BS : Below W3.heap.size wr (w3.setCell ⟨W3.heap.size, 2, none⟩ (.slice B' (k + 1) c')) := (BG.mono (Nat.le_succ _)).setCell (Nat.le_refl _) _
        exact ⟨k + 1, _, by omega, by go_num, ownsRow_setCell_below hown3 (by show _ < _; simp) _, obox_set O3 2 _, (Below.heap_setCell _ _ _ _ (by show _ ≠ _; simp; omega)).trans R3, HB3.setCell (by show _ ≤ _; simp; omega) _, by simp; omega, own_belowB own1 lt1 (BS.mono h23), own_belowB own2 lt2 BS⟩
      case measure => simp [intOf]; omega
    · obtain rfl : k = m := by omega
      obtain ⟨B', c', rfl, _, _, _⟩ := own_rd hown
      obtain ⟨k0, k1, k2, f0, f1, f2⟩ := O.f3
      obtain ⟨q0, q1, q2, p0, p1, p2⟩ := R.f3
      go_wp2
      refine bodyPost_ret (v := .agg #[.slice B k d, .slice B2 k d2, .slice B' k c']) (by simp [results, Tryz.results22, go_sem, *]; done) rfl ⟨B, d, _, _, W2.heap.size, W3.heap.size, rfl, hz12, h23, ?_, ?_, ?_, ?_, lt2, ?_, ?_⟩
      · simp; omega
      · refine RdB.own (ownsRow_setCell_below (ownsRow_setCell_below (ownsRow_setCell_below own1 ?_ _) ?_ _) ?_ _) lt1 <;> (show _ < _; simp)
      · intro ad e; have := own_base own1 ad.block (by rw [e]; rfl); have := lt1 ad.block (by rw [e]; rfl); omega
      · refine ownsRow_setCell_below (ownsRow_setCell_below (ownsRow_setCell_below own2 ?_ _) ?_ _) ?_ _ <;> (show _ < _; simp; omega)
      · refine own_mono (ownsRow_setCell_below (ownsRow_setCell_below (ownsRow_setCell_below hown ?_ _) ?_ _) ?_ _) (Nat.le_succ _) <;> (show _ < _; simp; omega)
      · (repeat (first | exact HB | refine Below.setCell ?_ (by dsimp only; omega) _ | refine Below.alloc ?_ (by have hs_ := HB.size; first | (simp; done) | (simp; omega) | omega) _ | apply Below.drew))
end Go.Proofs.YtehcpjodkadfnaaGreat
/- Layers 7 and 8 of the heap, tables: whether a table may be, as the document asks it. -/
set_option linter.unusedSimpArgs false
set_option linter.unusedVariables false
set_option maxRecDepth 100000
namespace Go.Proofs.YtehcpjodkadfnaaGreat
open Go.RowKit

theorem MBox.new (w : World) (m : Mv) (T : TypeId) : MBox (w.alloc (.cells #[.int .i64 m.f, .int .i64 m.d.k, .int .u64 m.d.b, .string m.d.t] T)) w.heap.size m := ⟨cell_new _ _ _ _ _ rfl, cell_new _ _ _ _ _ rfl, cell_new _ _ _ _ _ rfl, cell_new _ _ _ _ _ rfl⟩
def FdS (fs : List Fd) : Prop := ∀ f ∈ fs, f.s.size ≤ 9223372036854775807
theorem vl_ways {d : Vl} (hz : ¬ d = Vl.z) : (d.k == 0) = false ∨ ((d.k == 0) = true ∧ (d.b == 0) = false) ∨ ((d.k == 0) = true ∧ (d.b == 0) = true ∧ (d.t.toList == []) = false) := by
  rw [← ByteArray.toList_nil_beq d.t]
  obtain ⟨dk, db, dt⟩ := d
  by_cases e1 : dk = 0
  · by_cases e2 : db = 0
    · refine .inr (.inr ⟨by simp [e1], by simp [e2], ?_⟩)
      rw [name_beq]
      exact decide_eq_false fun e3 => hz (by have e3 : dt = _ := e3; show (⟨dk, db, dt⟩ : Vl) = Vl.z; rw [e1, e2, e3]; rfl)
    · exact .inr (.inl ⟨by simp [e1], by simp [e2]⟩)
  · exact .inl (by simp [e1])
end Go.Proofs.YtehcpjodkadfnaaGreat
/- Rows of structs: one element is struck by slices.Delete. -/
set_option linter.unusedSimpArgs false
set_option linter.unusedVariables false
set_option maxRecDepth 100000
namespace Go.Proofs.YtehcpjodkadfnaaGreat
open Go.RowKit Go.Lib

/-- the cells of a block behind stores in a row -/
theorem setCells_at (g : Nat) (e : TypeId) (fr : Nat × Nat) : ∀ (vs : List Value) (o : Nat) (w : World) (cur : Array Value), w.heap[g]? = some (.cells cur e fr) → o + vs.length ≤ cur.size →
    ∃ cur', (w.setCells g o vs).heap[g]? = some (.cells cur' e fr) ∧ cur'.toList = cur.toList.take o ++ vs ++ cur.toList.drop (o + vs.length)
  | [], o, w, cur, hg, _ => ⟨cur, hg, by simp⟩
  | v :: r, o, w, cur, hg, hl => by
    simp only [List.length_cons] at hl
    have h1 : (w.setCell ⟨g, o, none⟩ v).heap[g]? = some (.cells (cur.setIfInBounds o v) e fr) := by
      obtain ⟨hlt, hk⟩ := Array.getElem?_eq_some_iff.1 hg
      show (w.heap.modify g _)[g]? = _
      rw [Array.getElem?_eq_getElem (by rw [Array.size_modify]; exact hlt), Array.getElem_modify_self, hk]
      simp
    obtain ⟨cur', h2, h3⟩ := setCells_at g e fr r (o + 1) _ _ h1 (by simp; omega)
    refine ⟨cur', h2, h3.trans ?_⟩
    simp only [Array.toList_setIfInBounds]
    have hol : o < cur.toList.length := by simp; omega
    have e1 : (cur.toList.set o v).take (o + 1) = cur.toList.take o ++ [v] := by
      rw [List.take_add_one, List.take_set_of_le (Nat.le_refl _)]
      simp [List.getElem?_set_self, hol, show o < cur.size by omega]
    have e2 : (cur.toList.set o v).drop (o + 1 + r.length) = cur.toList.drop (o + 1 + r.length) := by
      rw [List.drop_set_of_lt (by omega)]
    rw [e1, e2, List.length_cons, show o + (r.length + 1) = o + 1 + r.length by omega]
    simp
theorem grown_setCells {w : World} {g : Nat} : ∀ (vs : List Value) (o : Nat) (W : World), w.grownBy W (some g) → w.grownBy (W.setCells g o vs) (some g)
  | [], _, _, h => h
  | v :: r, o, W, h => grown_setCells r (o + 1) (W.setCell ⟨g, o, none⟩ v) ⟨h.os, h.tape, h.output, by simpa [World.setCell] using h.size, fun k hk hne => (Below.heap_setCell _ _ _ _ (by rintro rfl; exact hne rfl)).trans (h.block k hk hne)⟩
theorem run_clear_one {P : Program} (w : World) (t e ty : TypeId) (z : Value) (zc : List Value) (ht : P.underlying t = some (.slice e)) (hv : ∀ w, (zeroValue e).run P w = .ok z w) (hz : z.cells.toList = zc) (h0 : 0 < zc.length) (h1 : ∀ u ∈ zc, u.oneCell' = true) (b o c : Nat)
    (hc : ∀ j, j < zc.length → (w.cell? ⟨b, o + j, none⟩).isSome = true) (hf : ∀ j, j < zc.length → w.frozen? ⟨b, o + j, none⟩ = false) :
    (Builtin.clear_ #[t] ty #[.slice (some ⟨b, o, none⟩) 1 c]).run P w = .ok (.tuple #[]) (w.setCells b o zc) := by
  have hzc : (Builtin.zeroCells z.cells 1).toList = zc := by
    rw [← hz]
    simp [Builtin.zeroCells]
    apply List.ext_getElem
    · simp
    · intro i h1 h2
      simp at h1
      simp [Nat.mod_eq_of_lt h1, h1]
  have hst := run_storeCells_cells (P := P) b o zc 0 w (by simpa using hc) (by simpa using hf) h1
  simp only [Nat.add_zero] at hst
  simp [Builtin.clear_, run_underlying ht, hv, hzc, hst]
/-- the row behind: its cells -/
theorem own_struck {w : World} {base g cap N i K : Nat} {T : TypeId} {xs news zc : List Value} {cur : Array Value} (hbase : base ≤ g) (hg : w.heap[g]? = some (.cells cur T (0, 0))) (hc : N + 1 ≤ cap) (hm : cap ≤ maxLen) (hs : cur.size = cap * K) (ht : cur.toList.take ((N + 1) * K) = xs) (hi : i ≤ N)
    (hn : news = xs.drop ((i + 1) * K)) (hz : zc.length = K) :
    ((w.setCells g (i * K) news).setCells g (N * K) zc).ownsRow base T K (.slice (some ⟨g, 0, none⟩) N cap) N (xs.take (i * K) ++ xs.drop ((i + 1) * K)) := by
  have m1 : (N + 1) * K = N * K + K := by rw [Nat.add_mul]; omega
  have m2 : (i + 1) * K = i * K + K := by rw [Nat.add_mul]; omega
  have m3 : (N + 1) * K ≤ cap * K := Nat.mul_le_mul_right K hc
  have m4 : i * K ≤ N * K := Nat.mul_le_mul_right K hi
  have hxl : xs.length = (N + 1) * K := by rw [← ht, List.length_take, Array.length_toList]; omega
  have hnl : news.length = N * K - i * K := by rw [hn, List.length_drop]; omega
  obtain ⟨cur1, h1, e1⟩ := setCells_at g T (0, 0) news (i * K) w cur hg (by omega)
  have hl1 : cur1.size = cap * K := by
    have := congrArg List.length e1
    simp only [Array.length_toList, List.length_append, List.length_take, List.length_drop] at this
    omega
  obtain ⟨cur2, h2, e2⟩ := setCells_at g T (0, 0) zc (N * K) _ cur1 h1 (by omega)
  have hl2 : cur2.size = cap * K := by
    have := congrArg List.length e2
    simp only [Array.length_toList, List.length_append, List.length_take, List.length_drop] at this
    omega
  refine ⟨by rw [List.length_append, List.length_take, List.length_drop]; omega, .inr ⟨g, cap, cur2, rfl, hbase, h2, by omega, hm, hl2, ?_⟩⟩
  rw [e2, List.append_assoc, List.take_append_of_le_length (by rw [List.length_take, Array.length_toList]; omega), List.take_take, Nat.min_self, e1, List.take_append_of_le_length (by rw [List.length_append, List.length_take, Array.length_toList]; omega), List.take_of_length_le (by rw [List.length_append, List.length_take, Array.length_toList]; omega)]
  rw [← hn, ← ht, List.take_take, Nat.min_eq_left (by omega)]
set_option maxHeartbeats 4000000 in
theorem DeleteF_m (base g cap N i : Nat) (xs : List Value) (w : World) (ho : w.ownsRow base 29 3 (.slice (some ⟨g, 0, none⟩) (N + 1) cap) (N + 1) xs) (hone : ∀ u ∈ xs, u.oneCell' = true) (hi : i ≤ N) :
    Calls Tryz.prog 64 #[.slice (some ⟨g, 0, none⟩) (N + 1) cap, .int .i64 i, .int .i64 ((i : Int) + 1)] w fun e w' => e = .returned (.slice (some ⟨g, 0, none⟩) N cap) ∧ w'.ownsRow base 29 3 (.slice (some ⟨g, 0, none⟩) N cap) N (xs.take (i * 3) ++ xs.drop ((i + 1) * 3)) ∧ w.grownBy w' (some g) := by
  obtain ⟨i0, hi0, hz0, hz1, hz2⟩ := info_parts infoFd
  obtain ⟨hxl, h⟩ := ho
  rcases h with ⟨h, _⟩ | ⟨g', cap', cur, hv, hbase, hg, hc, hm, hs, ht⟩
  · cases h
  cases hv
  have hm' : cap ≤ 9223372036854775807 := by simp only [maxLen] at hm; omega
  have hcell : ∀ t, t < cap * 3 → (w.drew.cell? ⟨g, t, none⟩).isSome = true ∧ w.drew.frozen? ⟨g, t, none⟩ = false := fun t htl => by
    have hg' : w.drew.heap[g]? = some (.cells cur 29 (0, 0)) := hg
    refine ⟨?_, by simp [World.frozen?, hg']⟩
    simp [World.cell?, hg', show t < cur.size by omega]
  obtain ⟨news, hnews⟩ : ∃ news, news = xs.drop ((i + 1) * 3) := ⟨_, rfl⟩
  have hlen : news.length = (N - i) * 3 := by rw [hnews, List.length_drop, hxl]; omega
  have hget : ∀ t u, news[t]? = some u → w.drew.cell? ⟨g, (i + 1) * 3 + t, none⟩ = some u := by
    intro t u htu
    have hg' : w.drew.heap[g]? = some (.cells cur 29 (0, 0)) := hg
    rw [hnews, List.getElem?_drop, ← ht, List.getElem?_take] at htu
    split at htu
    · simp only [World.cell?, hg']
      simpa using htu
    · cases htu
  obtain ⟨A, hA, hsrc⟩ : ∃ A : Addr, (if cap = i + 1 then some (⟨g, 0, none⟩ : Addr) else some ⟨g, (i + 1) * 3, none⟩) = some A ∧ Hid (∀ t u, news[t]? = some u → w.drew.cell? (A.add t) = some u) := by
    by_cases h : cap = i + 1
    · refine ⟨⟨g, 0, none⟩, by simp [h], fun t u hu => ?_⟩
      have h0 : news.length = 0 := by rw [hlen]; omega
      rw [List.length_eq_zero_iff.1 h0] at hu
      simp at hu
    · refine ⟨⟨g, (i + 1) * 3, none⟩, by simp [h], fun t u hu => ?_⟩
      rw [Addr.add_lit]
      exact hget t u hu
  have s1 : Hid (news.length = (N - i) * 3) := hlen
  have s2 : Hid (∀ u ∈ news, u.oneCell' = true) := by
    intro u hu
    rw [hnews] at hu
    exact hone u (List.mem_of_mem_drop hu)
  have s3 : Hid (∀ t, t < news.length → (w.drew.cell? ⟨g, 0 + i * 3 + t, none⟩).isSome = true ∧ w.drew.frozen? ⟨g, 0 + i * 3 + t, none⟩ = false) := by
    intro t ht
    rw [hlen] at ht
    exact hcell _ (by omega)
  obtain ⟨W1, hW1⟩ : ∃ W1, W1 = w.drew.setCells g (0 + i * 3) news := ⟨_, rfl⟩
  have hown := own_struck (w := w.drew) (base := base) (g := g) (cap := cap) (N := N) (i := i) (K := 3) (T := 29) (xs := xs) (news := news) (zc := [.string ⟨#[]⟩, .int .i64 0, .int .i64 0]) (cur := cur) hbase hg hc hm hs ht hi hnews rfl
  have hgr := grown_setCells (w := w) (g := g) [.string ⟨#[]⟩, .int .i64 0, .int .i64 0] (N * 3) _ (grown_setCells news (i * 3) w.drew ⟨rfl, rfl, rfl, Nat.le_refl _, fun _ _ _ => rfl⟩)
  have hW1' : w.drew.setCells g (i * 3) news = W1 := by rw [hW1, Nat.zero_add]
  rw [hW1'] at hown hgr
  have hc1 : ∀ t, t < cap * 3 → (W1.cell? ⟨g, t, none⟩).isSome = true ∧ W1.frozen? ⟨g, t, none⟩ = false := fun t htl => by
    obtain ⟨c1, c2⟩ := hcell t htl
    rw [hW1]
    exact ⟨World.isSome_setCells g news _ _ _ c1, by rw [World.frozen?_setCells]; exact c2⟩
  have hcl : ∀ ty, (Builtin.clear_ #[22] ty #[.slice (some ⟨g, N * 3, none⟩) 1 (cap - N)]).run Tryz.prog W1 = .ok (.tuple #[]) (W1.setCells g (N * 3) [.string ⟨#[]⟩, .int .i64 0, .int .i64 0]) :=
    fun ty => run_clear_one W1 _ _ ty (.agg #[.string ⟨#[]⟩, .int .i64 0, .int .i64 0]) [.string ⟨#[]⟩, .int .i64 0, .int .i64 0] Tryz.underlying22 (fun _ => by simp only [zeroValue, Sem.run_bind, run_typeInfo _ hi0, Result.andThen_ok, hz0, Sem.run_pure]) rfl (by decide) (by intro u hu; simp at hu; rcases hu with rfl | rfl | rfl | rfl <;> rfl) g (N * 3) _ (fun t ht => by simp at ht; exact (hc1 _ (by omega)).1) (fun t ht => by simp at ht; exact (hc1 _ (by omega)).2)
  have hW : Hid (W1 = w.drew.setCells g (0 + i * 3) news) := hW1
  have hic : i ≤ cap := by omega
  have hjc : i + 1 ≤ cap := by omega
  have mixed : Tryz.prog.follows .mixedOrders = true := by kernel_rfl
  have hi1 : (0 : Int) ≤ (i : Int) + 1 := by omega
  have hN1 : i + (N - i) = N := by omega
  have hN2 : N + 1 - N = 1 := by omega
  clear hW1 hW1' hnews hget hlen hcell hc1
  go_enter Tryz.func64, Tryz.ntmps64
  go_wp2_with fail
  go_region_law_o (refine step_append_room rfl (.tmp 22) (.tmp 25) 22 rfl 29 i0 3 Tryz.underlying22 hi0 hz1 g 0 i cap (by simp [Act.eval, Act.put]) A (N - i) (cap - (i + 1)) news (by simp [Act.eval, Act.put]) s1.out hsrc.out s2.out (by omega) s3.out ?_; rw [← hW.out, hN1])
  go_wp2
  go_ret
  exact ⟨rfl, hown, hgr⟩
set_option maxHeartbeats 4000000 in
theorem DeleteM_m (base g cap N i : Nat) (xs : List Value) (w : World) (ho : w.ownsRow base 61 4 (.slice (some ⟨g, 0, none⟩) (N + 1) cap) (N + 1) xs) (hone : ∀ u ∈ xs, u.oneCell' = true) (hi : i ≤ N) :
    Calls Tryz.prog 65 #[.slice (some ⟨g, 0, none⟩) (N + 1) cap, .int .i64 i, .int .i64 ((i : Int) + 1)] w fun e w' => e = .returned (.slice (some ⟨g, 0, none⟩) N cap) ∧ w'.ownsRow base 61 4 (.slice (some ⟨g, 0, none⟩) N cap) N (xs.take (i * 4) ++ xs.drop ((i + 1) * 4)) ∧ w.grownBy w' (some g) := by
  obtain ⟨i0, hi0, hz0, hz1, hz2⟩ := info_parts infoMv
  obtain ⟨hxl, h⟩ := ho
  rcases h with ⟨h, _⟩ | ⟨g', cap', cur, hv, hbase, hg, hc, hm, hs, ht⟩
  · cases h
  cases hv
  have hm' : cap ≤ 9223372036854775807 := by simp only [maxLen] at hm; omega
  have hcell : ∀ t, t < cap * 4 → (w.drew.cell? ⟨g, t, none⟩).isSome = true ∧ w.drew.frozen? ⟨g, t, none⟩ = false := fun t htl => by
    have hg' : w.drew.heap[g]? = some (.cells cur 61 (0, 0)) := hg
    refine ⟨?_, by simp [World.frozen?, hg']⟩
    simp [World.cell?, hg', show t < cur.size by omega]
  obtain ⟨news, hnews⟩ : ∃ news, news = xs.drop ((i + 1) * 4) := ⟨_, rfl⟩
  have hlen : news.length = (N - i) * 4 := by rw [hnews, List.length_drop, hxl]; omega
  have hget : ∀ t u, news[t]? = some u → w.drew.cell? ⟨g, (i + 1) * 4 + t, none⟩ = some u := by
    intro t u htu
    have hg' : w.drew.heap[g]? = some (.cells cur 61 (0, 0)) := hg
    rw [hnews, List.getElem?_drop, ← ht, List.getElem?_take] at htu
    split at htu
    · simp only [World.cell?, hg']
      simpa using htu
    · cases htu
  obtain ⟨A, hA, hsrc⟩ : ∃ A : Addr, (if cap = i + 1 then some (⟨g, 0, none⟩ : Addr) else some ⟨g, (i + 1) * 4, none⟩) = some A ∧ Hid (∀ t u, news[t]? = some u → w.drew.cell? (A.add t) = some u) := by
    by_cases h : cap = i + 1
    · refine ⟨⟨g, 0, none⟩, by simp [h], fun t u hu => ?_⟩
      have h0 : news.length = 0 := by rw [hlen]; omega
      rw [List.length_eq_zero_iff.1 h0] at hu
      simp at hu
    · refine ⟨⟨g, (i + 1) * 4, none⟩, by simp [h], fun t u hu => ?_⟩
      rw [Addr.add_lit]
      exact hget t u hu
  have s1 : Hid (news.length = (N - i) * 4) := hlen
  have s2 : Hid (∀ u ∈ news, u.oneCell' = true) := by
    intro u hu
    rw [hnews] at hu
    exact hone u (List.mem_of_mem_drop hu)
  have s3 : Hid (∀ t, t < news.length → (w.drew.cell? ⟨g, 0 + i * 4 + t, none⟩).isSome = true ∧ w.drew.frozen? ⟨g, 0 + i * 4 + t, none⟩ = false) := by
    intro t ht
    rw [hlen] at ht
    exact hcell _ (by omega)
  obtain ⟨W1, hW1⟩ : ∃ W1, W1 = w.drew.setCells g (0 + i * 4) news := ⟨_, rfl⟩
  have hown := own_struck (w := w.drew) (base := base) (g := g) (cap := cap) (N := N) (i := i) (K := 4) (T := 61) (xs := xs) (news := news) (zc := [.int .i64 0, .int .i64 0, .int .u64 0, .string ⟨#[]⟩]) (cur := cur) hbase hg hc hm hs ht hi hnews rfl
  have hgr := grown_setCells (w := w) (g := g) [.int .i64 0, .int .i64 0, .int .u64 0, .string ⟨#[]⟩] (N * 4) _ (grown_setCells news (i * 4) w.drew ⟨rfl, rfl, rfl, Nat.le_refl _, fun _ _ _ => rfl⟩)
  have hW1' : w.drew.setCells g (i * 4) news = W1 := by rw [hW1, Nat.zero_add]
  rw [hW1'] at hown hgr
  have hc1 : ∀ t, t < cap * 4 → (W1.cell? ⟨g, t, none⟩).isSome = true ∧ W1.frozen? ⟨g, t, none⟩ = false := fun t htl => by
    obtain ⟨c1, c2⟩ := hcell t htl
    rw [hW1]
    exact ⟨World.isSome_setCells g news _ _ _ c1, by rw [World.frozen?_setCells]; exact c2⟩
  have hcl : ∀ ty, (Builtin.clear_ #[34] ty #[.slice (some ⟨g, N * 4, none⟩) 1 (cap - N)]).run Tryz.prog W1 = .ok (.tuple #[]) (W1.setCells g (N * 4) [.int .i64 0, .int .i64 0, .int .u64 0, .string ⟨#[]⟩]) :=
    fun ty => run_clear_one W1 _ _ ty (.agg #[.int .i64 0, .int .i64 0, .int .u64 0, .string ⟨#[]⟩]) [.int .i64 0, .int .i64 0, .int .u64 0, .string ⟨#[]⟩] Tryz.underlying34 (fun _ => by simp only [zeroValue, Sem.run_bind, run_typeInfo _ hi0, Result.andThen_ok, hz0, Sem.run_pure]) rfl (by decide) (by intro u hu; simp at hu; rcases hu with rfl | rfl | rfl | rfl <;> rfl) g (N * 4) _ (fun t ht => by simp at ht; exact (hc1 _ (by omega)).1) (fun t ht => by simp at ht; exact (hc1 _ (by omega)).2)
  have hW : Hid (W1 = w.drew.setCells g (0 + i * 4) news) := hW1
  have hic : i ≤ cap := by omega
  have hjc : i + 1 ≤ cap := by omega
  have mixed : Tryz.prog.follows .mixedOrders = true := by kernel_rfl
  have hi1 : (0 : Int) ≤ (i : Int) + 1 := by omega
  have hN1 : i + (N - i) = N := by omega
  have hN2 : N + 1 - N = 1 := by omega
  clear hW1 hW1' hnews hget hlen hcell hc1
  go_enter Tryz.func65, Tryz.ntmps65
  go_wp2_with fail
  go_region_law_o (refine step_append_room rfl (.tmp 22) (.tmp 25) 34 rfl 61 i0 4 Tryz.underlying34 hi0 hz1 g 0 i cap (by simp [Act.eval, Act.put]) A (N - i) (cap - (i + 1)) news (by simp [Act.eval, Act.put]) s1.out hsrc.out s2.out (by omega) s3.out ?_; rw [← hW.out, hN1])
  go_wp2
  go_ret
  exact ⟨rfl, hown, hgr⟩
end Go.Proofs.YtehcpjodkadfnaaGreat
