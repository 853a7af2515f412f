/- Merged out of: Nb Nc. -/
import Derived.Test.YtehcpjodkadfnaaUo
/- Layer 7 of the heap, tables, in plain words: two tables, one behind the other; many changes. -/
set_option linter.unusedSimpArgs false
set_option linter.unusedVariables false
set_option maxRecDepth 100000
namespace Go.Proofs.Ytehcpjodkadfnaa
open Go.RowKit

/-- a value, turned into another field's -/
def castL (v : Vl) (f g : Fd) : Vl := if rightB v.k v.b v.t f.k f.l = true ∧ castsB f.k f.l g.k g.l = true then ⟨g.k, castZ v.b f.k g.k, castT v.t g.k g.l⟩ else Vl.z
theorem castL_v (v : Vl) (f g : Fd) : castV v.k v.b v.t f.k f.l g.k g.l = (castL v f g).v := by
  unfold castV castL
  split <;> rfl
theorem castL_bd {v : Vl} {f g : Fd} (h0 : 0 ≤ v.b) (h1 : v.b < 18446744073709551616) : 0 ≤ (castL v f g).b ∧ (castL v f g).b < 18446744073709551616 := by
  unfold castL
  split
  · exact castZ_bd _ _ _ h0 h1
  · exact ⟨by decide, by decide⟩
/-- a move behind a table -/
def compMv (a b : Tb) (k : Nat) : Mv :=
  match b.m[k]? with
  | none => ⟨0, Vl.z⟩
  | some m =>
    if 0 ≤ m.f then
      match a.m[m.f.toNat]? with
      | none => ⟨0, Vl.z⟩
      | some n => if n.f < 0 then ⟨n.f, castL n.d ((b.o[m.f.toNat]?).getD Fd.z) ((b.n[k]?).getD Fd.z)⟩ else n
    else m
def compM (a b : Tb) (k : Nat) : List Mv := (List.range k).map (compMv a b)
theorem compM_succ (a b : Tb) (k : Nat) : compM a b (k + 1) = compM a b k ++ [compMv a b k] := by simp [compM, List.range_succ]
theorem compM_length (a b : Tb) (k : Nat) : (compM a b k).length = k := by simp [compM]
def compT (a b : Tb) : Tb := ⟨a.o, b.n, compM a b b.m.length⟩
def meetB (a b : Tb) : Bool := rightT a && rightT b && sameFB a.n b.o
def composeE (a b : Tb) : Int := if meetB a b = true ∧ rightT (compT a b) = true then 0 else 70
def composeT (a b : Tb) : Tb := if composeE a b = 0 then compT a b else Tb.z

theorem casts_11 {k l l2 : Int} (h : castsB k l 11 l2 = true) : k = 11 := by
  unfold castsB at h
  split at h
  · cases h
  · split at h
    · assumption
    · split at h
      · simp [btw] at h
      · split at h
        · simp [btw] at h
        · split at h
          · simp [btw] at h
          · simp at h
theorem okMv_neg {o : List Fd} {g : Fd} {d : Vl} : okMv o g ⟨-1, d⟩ = (rightB d.k d.b d.t g.k g.l && (decide (g.k ≠ 11) || decide (d.b = 0))) := by rw [okMv, if_pos rfl]
theorem okMv_pos {o : List Fd} {g : Fd} {m : Mv} (h : ¬ m.f = -1) (hok : okMv o g m = true) : 0 ≤ m.f ∧ m.d = Vl.z ∧ ∃ f, o[m.f.toNat]? = some f ∧ castsB f.k f.l g.k g.l = true := by
  rw [okMv, if_neg h, Bool.and_eq_true, decide_eq_true_eq] at hok
  obtain ⟨h0, h1⟩ := hok
  cases hf : o[m.f.toNat]? with
  | none => rw [hf] at h1; cases h1
  | some f =>
    rw [hf] at h1
    simp only [Bool.and_eq_true, decide_eq_true_eq] at h1
    exact ⟨h0, h1.1, f, rfl, h1.2⟩
/-- what a composed move is, and whether it may be -/
theorem comp_at {a b : Tb} (hw : MvW a.m) (ha : rightT a = true) (hb : rightT b = true) (hs : a.n = b.o) {k : Nat} {m : Mv} {g : Fd} (hm : b.m[k]? = some m) (hg : b.n[k]? = some g) :
    (m.f < 0 ∧ compMv a b k = m ∧ okAt (compT a b) k = true) ∨
    (0 ≤ m.f ∧ ∃ n f, a.m[m.f.toNat]? = some n ∧ a.n[m.f.toNat]? = some f ∧ b.o[m.f.toNat]? = some f ∧
      ((n.f < 0 ∧ compMv a b k = ⟨n.f, castL n.d f g⟩ ∧ okAt (compT a b) k = true) ∨
       (0 ≤ n.f ∧ compMv a b k = n ∧ ∃ h, a.o[n.f.toNat]? = some h ∧ okAt (compT a b) k = castsB h.k h.l g.k g.l))) := by
  obtain ⟨_, _, ala, aok⟩ := rightT_iff.1 ha
  obtain ⟨_, _, blb, bok⟩ := rightT_iff.1 hb
  have hk : k < b.m.length := (List.getElem?_eq_some_iff.1 hm).1
  have hok := bok k hk
  rw [okAt_mk hm hg] at hok
  have hat : okAt (compT a b) k = okMv a.o g (compMv a b k) := okAt_mk (t := compT a b) (by show (compM a b b.m.length)[k]? = _; simp [compM, hk]) hg
  by_cases hf : m.f = -1
  · have e : compMv a b k = m := by unfold compMv; rw [hm]; simp only; rw [if_neg (by omega)]
    refine .inl ⟨by omega, e, ?_⟩
    rw [hat, e]
    obtain ⟨mf, md⟩ := m
    obtain rfl : mf = -1 := hf
    rw [okMv_neg] at hok ⊢
    exact hok
  · obtain ⟨h0, hz, f, hbo, hcast⟩ := okMv_pos hf hok
    have hlt : m.f.toNat < b.o.length := (List.getElem?_eq_some_iff.1 hbo).1
    have hlm : m.f.toNat < a.m.length := by rw [ala, hs]; exact hlt
    have hn : a.m[m.f.toNat]? = some (a.m[m.f.toNat]'hlm) := List.getElem?_eq_getElem hlm
    have haok := aok _ hlm
    have han : a.n[m.f.toNat]? = some f := by rw [hs]; exact hbo
    rw [okAt_mk hn han] at haok
    obtain ⟨w0, w1⟩ := hw _ (List.getElem_mem hlm)
    generalize a.m[m.f.toNat]'hlm = n at *
    refine .inr ⟨h0, n, f, hn, han, hbo, ?_⟩
    by_cases hnf : n.f = -1
    · have e : compMv a b k = ⟨n.f, castL n.d f g⟩ := by unfold compMv; rw [hm]; simp only; rw [if_pos h0, hn]; simp only; rw [if_pos (by omega), hbo, hg]; rfl
      refine .inl ⟨by omega, e, ?_⟩
      rw [hat, e, hnf, okMv_neg]
      obtain ⟨nf, nd⟩ := n
      obtain rfl : nf = -1 := hnf
      rw [okMv_neg, Bool.and_eq_true] at haok
      obtain ⟨hr, h11⟩ := haok
      have hcl : castL nd f g = ⟨g.k, castZ nd.b f.k g.k, castT nd.t g.k g.l⟩ := by rw [castL, if_pos ⟨hr, hcast⟩]
      show (rightB (castL nd f g).k (castL nd f g).b (castL nd f g).t g.k g.l && (decide (g.k ≠ 11) || decide ((castL nd f g).b = 0))) = true
      rw [hcl]
      have hcr := (cast_right (tx := nd.t) w0 w1 hr hcast).1
      show (rightB g.k (castZ nd.b f.k g.k) (castT nd.t g.k g.l) g.k g.l && (decide (g.k ≠ 11) || decide (castZ nd.b f.k g.k = 0))) = true
      rw [hcr, Bool.true_and]
      by_cases hg11 : g.k = 11
      · have hf11 : f.k = 11 := casts_11 (k := f.k) (l := f.l) (l2 := g.l) (by rw [hg11] at hcast; exact hcast)
        rw [hg11, hf11]
        simp [hf11] at h11
        simp [castZ, h11]
      · simp [hg11]
    · obtain ⟨n0, nz, h, hao, _⟩ := okMv_pos hnf haok
      have e : compMv a b k = n := by unfold compMv; rw [hm]; simp only; rw [if_pos h0, hn]; simp only; rw [if_neg (by omega)]
      refine .inr ⟨n0, e, h, hao, ?_⟩
      rw [hat, e, okMv, if_neg hnf, hao]
      simp [n0, nz]
theorem meetB_iff {a b : Tb} : meetB a b = true ↔ rightT a = true ∧ rightT b = true ∧ a.n = b.o := by
  simp [meetB, sameFB, and_assoc]
theorem compT_right {a b : Tb} (h : meetB a b = true) : rightT (compT a b) = decide (∀ k, k < b.m.length → okAt (compT a b) k = true) := by
  obtain ⟨ha, hb, _⟩ := meetB_iff.1 h
  obtain ⟨a1, _, _, _⟩ := rightT_iff.1 ha
  obtain ⟨_, b2, b3, _⟩ := rightT_iff.1 hb
  have e1 : (compT a b).m.length = b.m.length := compM_length _ _ _
  rw [Bool.eq_iff_iff, rightT_iff, decide_eq_true_eq, e1]
  exact ⟨fun h => h.2.2.2, fun h => ⟨a1, b2, b3, h⟩⟩
theorem composeE_right {a b : Tb} (h : composeE a b = 0) : meetB a b = true ∧ rightT (compT a b) = true ∧ composeT a b = compT a b := by
  have e : composeT a b = compT a b := by rw [composeT, if_pos h]
  unfold composeE at h
  split at h
  · rename_i hh; exact ⟨hh.1, hh.2, e⟩
  · omega
theorem compM_w {a b : Tb} (ha : MvW a.m) (hb : MvW b.m) (k : Nat) : MvW (compM a b k) := by
  intro m hm
  simp only [compM, List.mem_map] at hm
  obtain ⟨j, _, rfl⟩ := hm
  unfold compMv
  split
  · exact ⟨by decide, by decide⟩
  · rename_i m hm
    split
    · split
      · exact ⟨by decide, by decide⟩
      · rename_i n hn
        obtain ⟨w0, w1⟩ := ha n (List.mem_of_getElem? hn)
        split
        · exact castL_bd w0 w1
        · exact ⟨w0, w1⟩
    · exact hb m (List.mem_of_getElem? hm)
/-- many changes, one behind the other -/
def goT (t : Tb) : List Ch → Tb × Int
  | [] => (t, 0)
  | c :: r => if makeE t.n c = 0 then (if composeE t (makeT t.n c) = 0 then goT (composeT t (makeT t.n c)) r else (Tb.z, 70)) else (Tb.z, makeE t.n c)
def allT (l : List Fd) (cs : List Ch) : Tb × Int := if rightF l = true then goT (keepT l) cs else (Tb.z, 60)
theorem goT_right {t : Tb} (ht : rightT t = true) : ∀ cs, (goT t cs).2 = 0 → rightT (goT t cs).1 = true := by
  intro cs
  induction cs generalizing t with
  | nil => intro _; exact ht
  | cons c r ih =>
    intro h
    unfold goT at h ⊢
    split at h
    · rename_i h1
      rw [if_pos h1]
      split at h
      · rename_i h2
        rw [if_pos h2]
        obtain ⟨_, h3, h4⟩ := composeE_right h2
        exact ih (by rw [h4]; exact h3) h
      · exact absurd h (by decide)
    · rename_i h1; exact absurd h h1
theorem allT_right {l : List Fd} {cs : List Ch} (h : (allT l cs).2 = 0) : rightT (allT l cs).1 = true := by
  unfold allT at h ⊢
  split at h
  · rename_i h1
    rw [if_pos h1]
    exact goT_right (by rw [keepT_right h1]; exact keep_right h1) cs h
  · exact absurd h (by decide)
end Go.Proofs.Ytehcpjodkadfnaa
/- Layers 7 and 8 of the heap, tables: the table that changes nothing, as the program makes it, of a right row. -/
set_option linter.unusedSimpArgs false
set_option linter.unusedVariables false
set_option maxRecDepth 100000
namespace Go.Proofs.Ytehcpjodkadfnaa
open Go.RowKit

/-- what cells hold, from an address on, in a block below a number -/
def RdB (b : Nat) (w : World) (A : Option Addr) (cs : List Value) : Prop := cs ≠ [] → ∃ ad, A = some ad ∧ ad.block < b ∧ ∀ j u, cs[j]? = some u → w.cell? (ad.add j) = some u
theorem RdB.rd {b : Nat} {w : World} {A : Option Addr} {cs : List Value} (h : RdB b w A cs) : Rd w A cs := fun hn => by
  obtain ⟨ad, e, _, hc⟩ := h hn; exact ⟨ad, e, hc⟩
theorem RdB.below {b : Nat} {w w1 : World} {A : Option Addr} {cs : List Value} (h : RdB b w A cs) (hb : Below b w w1) : RdB b w1 A cs := fun hn => by
  obtain ⟨ad, e, hl, hc⟩ := h hn
  refine ⟨ad, e, hl, fun j u hj => (hb.cell ?_).trans (hc j u hj)⟩
  have : (ad.add j).block = ad.block := by unfold Addr.add; split <;> rfl
  rw [this]; exact hl
theorem RdB.mk {w w1 : World} {A : Option Addr} {cs : List Value} (h : Rd w A cs) (hb : Below w.heap.size w w1) {b : Nat} (hl : w.heap.size ≤ b) : RdB b w1 A cs := fun hn => by
  obtain ⟨ad, e, hc⟩ := h.below hb hn
  obtain ⟨ad', e', hc'⟩ := h hn
  rw [e] at e'; cases e'
  refine ⟨ad, e, ?_, hc⟩
  cases cs with
  | nil => exact absurd rfl hn
  | cons u r =>
    have h0 := World.block_lt_of_cell? w _ (hc' 0 u rfl)
    have : (ad.add 0).block = ad.block := by unfold Addr.add; split <;> rfl
    rw [this] at h0; omega
/-- the block that a slice owns lies below a number -/
def OwnLt (b : Nat) (v : Value) : Prop := ∀ k, v.ownBlock = some k → k < b
theorem own_keep {w w1 : World} {base : Nat} {e : TypeId} {size n : Nat} {v : Value} {xs : List Value} (h : w.ownsRow base e size v n xs) (hk : ∀ g, v.ownBlock = some g → w1.heap[g]? = w.heap[g]?) : w1.ownsRow base e size v n xs := by
  obtain ⟨h1, h2⟩ := h
  refine ⟨h1, ?_⟩
  rcases h2 with h2 | ⟨g, cap, cur, rfl, hg, hh, r⟩
  · exact .inl h2
  · exact .inr ⟨g, cap, cur, rfl, hg, (hk g (by simp [Value.ownBlock])).trans hh, r⟩
theorem own_belowB {w w1 : World} {base B : Nat} {e : TypeId} {size n : Nat} {v : Value} {xs : List Value} (h : w.ownsRow base e size v n xs) (hl : OwnLt B v) (hb : Below B w w1) : w1.ownsRow base e size v n xs :=
  own_keep h fun g hg => hb.block g (hl g hg)
theorem RdB.own {w : World} {base b n m c : Nat} {e : TypeId} {size : Nat} {A : Option Addr} {xs : List Value} (h : w.ownsRow base e size (.slice A m c) n xs) (hl : OwnLt b (.slice A m c)) : RdB b w A xs := by
  obtain ⟨A', c', e1, _, _, hr⟩ := own_rd h
  cases e1
  intro hn
  obtain ⟨ad, rfl, hc⟩ := hr hn
  exact ⟨ad, rfl, hl _ (by simp [Value.ownBlock]), hc⟩
theorem OwnLt.mono {b b' : Nat} {v : Value} (h : OwnLt b v) (hb : b ≤ b') : OwnLt b' v := fun k hk => by have := h k hk; omega
theorem CloneF_m (A : Option Addr) (c m : Nat) (l : List Fd) (hm : l.length = m) (w : World) (hA : Rd w A (cellsF l)) (hl : m ≤ 4398046511104) (hlc : m ≤ c) :
    Calls Try.prog 49 #[.slice A m c] w fun e w' => ∃ B d, e = .returned (.slice B m d) ∧ m ≤ d ∧ w'.ownsRow w.heap.size 24 3 (.slice B m d) m (cellsF l) ∧ Below w.heap.size w w' := by
  subst hm
  refine (CloneF_calls A c l w hA hl hlc).mono ?_
  rintro e w' ⟨v, rfl, ho, hb⟩
  obtain ⟨B, d, rfl, hd, _, _⟩ := own_rd ho
  exact ⟨B, d, rfl, hd, ho, hb⟩
set_option maxHeartbeats 4000000 in
theorem TSame_yes (A : Option Addr) (c m : Nat) (l : List Fd) (hm : l.length = m) (hr : rightF l = true) (w : World) (hA : Rd w A (cellsF l)) (hl : m ≤ 9223372036854775807) (hc : m ≤ c) :
    Calls Try.prog 30 #[.slice A m c] w fun e w' => ∃ B d v2 v3 b1 b2, e = .returned (.agg #[.slice B m d, v2, v3]) ∧ w.heap.size ≤ b1 ∧ b1 ≤ b2 ∧ b2 ≤ w'.heap.size ∧ RdB b1 w' B (cellsF l) ∧ (∀ ad, B = some ad → w.heap.size ≤ ad.block ∧ ad.block < b1) ∧ w'.ownsRow b1 24 3 v2 m (cellsF l) ∧ OwnLt b2 v2 ∧ w'.ownsRow b2 63 4 v3 m (cellsM (kM m)) ∧ Below w.heap.size w w' := by
  obtain ⟨i0, hi, hz0, hz1, hz2⟩ := info_parts infoMv
  have h16 : m ≤ 16 := by rw [← hm]; exact (rightF_may hr).2
  have hb1 := below_new (w := w) (.cells #[.slice none 0 0, .slice none 0 0, .slice none 0 0] 36)
  have R := OBox.new w [.slice none 0 0, .slice none 0 0, .slice none 0 0] 36
  have HB := hb1
  replace hA := hA.below hb1
  have HM := Lib.hid hm
  have HR := Lib.hid hr
  have tok1 := True.intro
  clear hm hr hb1
  go_enter Try.func30, Try.ntmps30
  go_wp2_with (first
    | (go_at_call 20; refine (Right_m A c m l HM.out true HR.out _ hA hl).mono ?_; rintro e W1 ⟨rfl, hb⟩; replace HB := HB.trans (hb.mono HB.size); replace R := R.below hb; replace hA := hA.below hb; have hz1W : w.heap.size + 1 ≤ W1.heap.size := R.lt; clear hb)
    | (have _t := tok1; go_at_call 49; refine (CloneF_m A c m l HM.out _ hA (by omega) hc).mono ?_; rintro e W2 ⟨B, d, rfl, hd, own1, hb⟩; replace HB := HB.trans (hb.mono HB.size); replace R := R.below hb; replace hA := hA.below hb; have hz12 := HB.size; have h12 := hb.size; clear hb tok1; have tok2 := True.intro)
    | (have _t := tok2; go_at_call 49; refine (CloneF_m A c m l HM.out _ hA (by omega) hc).mono ?_; rintro e W3 ⟨B2, d2, rfl, hd2, own2, hb3⟩; replace HB := HB.trans (hb3.mono HB.size); replace R := R.below hb3; clear hA tok2))
  have O := OBox.new W3 [.slice B m d, .slice B2 m d2, .slice none 0 0] 36
  have hb2 := below_new (w := W3) (.cells #[.slice B m d, .slice B2 m d2, .slice none 0 0] 36)
  have hzW : w.heap.size < W3.heap.size := R.lt
  have h23 := hb3.size
  have lt1 : OwnLt W2.heap.size (.slice B m d) := own_lt own1
  have own1' := own_mono (own_below (own_below own1 hb3) hb2) hz1W
  have own2' := own_below own2 hb2
  have lt2 : OwnLt W3.heap.size (.slice B2 m d2) := own_lt own2
  have R0 := R.below hb2
  have HB0 := HB.trans (hb2.mono HB.size)
  clear hb2 HB R own1 own2 hb3
  go_loopw [4, 16] (fun i j wr => ∃ (k : Nat) (v : Value), k ≤ m ∧ j = .int .i64 k ∧ wr.ownsRow (W3.heap.size + 1) 63 4 v k (cellsM (kM k)) ∧ OBox wr W3.heap.size [.slice B m d, .slice B2 m d2, v] 36 ∧ OBox wr w.heap.size [.slice none 0 0, .slice none 0 0, .slice none 0 0] 36 ∧ Below w.heap.size w wr ∧ W3.heap.size < wr.heap.size ∧ wr.ownsRow (w.heap.size + 1) 24 3 (.slice B m d) m (cellsF l) ∧ wr.ownsRow W2.heap.size 24 3 (.slice B2 m d2) m (cellsF l)) (fun _ i _ => m - (intOf i).toNat)
  case atStart => exact ⟨0, _, by omega, rfl, own_nil _ _ _ _, O, R0, HB0, by simp, own1', own2'⟩
  case round =>
    obtain ⟨k, v, hk, rfl, hown, O, R, HB, hz, own1, own2⟩ := hrel
    clear R0 HB0
    by_cases hlt : k < m
    · have HK := Lib.hid (kM_succ k)
      obtain ⟨k0, k1, k2, f0, f1, f2⟩ := (O.below (below_new (w := wr) (.cells #[.int .i64 k, .int .i64 0, .int .u64 0, .string ⟨#[]⟩] 63))).f3
      obtain ⟨q0, q1, q2, p0, p1, p2⟩ := O.f3
      go_wp2_with (at_builtin; refine wpList_append_own _ rfl _ _ 34 rfl (W3.heap.size + 1) 63 i0 (.agg #[.int .i64 0, .int .i64 0, .int .u64 0, .string ⟨#[]⟩]) 4 40 Try.underlying34 hi hz0 hz1 hz2 rfl (by decide) _ _ _ rfl (hown.alloc _) ⟨wr.heap.size, 0, none⟩ 1 1 [.int .i64 k, .int .i64 0, .int .u64 0, .string ⟨#[]⟩] rfl rfl ?c1 ?c2 ?c3 ?c4 ?c5 ?_)
      case c1 => exact news4 _ _ _ _ _ _
      case c2 => intro u hu; simp at hu; rcases hu with rfl | rfl | rfl | rfl <;> rfl
      case c3 => simp only [maxLen]; omega
      case c4 => omega
      case c5 => simp; omega
      intro v' w3 hown' hgrow _
      have BG : Below (W3.heap.size + 1) wr w3 := ((Below.refl _ _).alloc (by omega) (.cells #[.int .i64 k, .int .i64 0, .int .u64 0, .string ⟨#[]⟩] 63)).grown hgrow (by simp; omega) (fun q hq => own_base hown q hq)
      have O3 : OBox w3 W3.heap.size [.slice B m d, .slice B2 m d2, v] 36 := (BG.block _ (by omega)).trans O
      have R3 : OBox w3 w.heap.size [.slice none 0 0, .slice none 0 0, .slice none 0 0] 36 := (BG.block _ (by omega)).trans R
      have HB3 := HB.trans (BG.mono (by omega))
      have hown3 : w3.ownsRow (W3.heap.size + 1) 63 4 v' (k + 1) (cellsM (kM (k + 1))) := own_eq hown' (by simp) (by rw [HK.out, cellsM_append]; rfl)
      have hz3 := BG.size
      obtain ⟨B', c', rfl, _, _, _⟩ := own_rd hown3
      clear hown' hgrow hown k0 k1 k2 f0 f1 f2 q0 q1 q2 p0 p1 p2
      obtain ⟨k0, k1, k2, f0, f1, f2⟩ := O3.f3
      go_wp2
      go_roundw
      case rel =>
        have BS : Below W3.heap.size wr (w3.setCell ⟨W3.heap.size, 2, none⟩ (.slice B' (k + 1) c')) := (BG.mono (Nat.le_succ _)).setCell (Nat.le_refl _) _
        exact ⟨k + 1, _, by omega, by go_num, ownsRow_setCell_below hown3 (by show _ < _; simp) _, obox_set O3 2 _, (Below.heap_setCell _ _ _ _ (by show _ ≠ _; simp; omega)).trans R3, HB3.setCell (by show _ ≤ _; simp; omega) _, by simp; omega, own_belowB own1 lt1 (BS.mono h23), own_belowB own2 lt2 BS⟩
      case measure => simp [intOf]; omega
    · obtain rfl : k = m := by omega
      obtain ⟨B', c', rfl, _, _, _⟩ := own_rd hown
      obtain ⟨k0, k1, k2, f0, f1, f2⟩ := O.f3
      obtain ⟨q0, q1, q2, p0, p1, p2⟩ := R.f3
      go_wp2
      refine bodyPost_ret (v := .agg #[.slice B k d, .slice B2 k d2, .slice B' k c']) (by simp [results, Try.results30, go_sem, *]; done) rfl ⟨B, d, _, _, W2.heap.size, W3.heap.size, rfl, hz12, h23, ?_, ?_, ?_, ?_, lt2, ?_, ?_⟩
      · simp; omega
      · refine RdB.own (ownsRow_setCell_below (ownsRow_setCell_below (ownsRow_setCell_below own1 ?_ _) ?_ _) ?_ _) lt1 <;> (show _ < _; simp)
      · intro ad e; have := own_base own1 ad.block (by rw [e]; rfl); have := lt1 ad.block (by rw [e]; rfl); omega
      · refine ownsRow_setCell_below (ownsRow_setCell_below (ownsRow_setCell_below own2 ?_ _) ?_ _) ?_ _ <;> (show _ < _; simp; omega)
      · refine own_mono (ownsRow_setCell_below (ownsRow_setCell_below (ownsRow_setCell_below hown ?_ _) ?_ _) ?_ _) (Nat.le_succ _) <;> (show _ < _; simp; omega)
      · (repeat (first | exact HB | refine Below.setCell ?_ (by dsimp only; omega) _ | refine Below.alloc ?_ (by have hs_ := HB.size; first | (simp; done) | (simp; omega) | omega) _ | apply Below.drew))
end Go.Proofs.Ytehcpjodkadfnaa
