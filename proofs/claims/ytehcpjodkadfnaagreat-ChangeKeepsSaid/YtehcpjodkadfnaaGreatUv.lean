/- Merged out of: Nj. -/
import Derived.Test.YtehcpjodkadfnaaGreatUu
import Derived.Sort.OwnSortedInts
import Derived.Deep.RegionLawGrows
/- Layer 8 of the heap, changes: rows of numbers, cloned and sorted. -/
set_option linter.unusedSimpArgs false
set_option linter.unusedVariables false
set_option maxRecDepth 100000
namespace Go.Proofs.YtehcpjodkadfnaaGreat
open Go.RowKit Go.Lib Go.Sort Go.Shelf

def cellsI (q : List Int) : List Value := q.map (Value.int .i64)
theorem cellsI_length (q : List Int) : (cellsI q).length = q.length := by simp [cellsI]
theorem infoI : (Tryz.prog.info? 3).map (fun i => (i.zero, i.size, i.bytes)) = some (some (.int .i64 0), 1, 8) := by kernel_rfl
set_option maxHeartbeats 1600000 in
theorem CloneI_m (A : Option Addr) (c n : Nat) (q : List Int) (hn : q.length = n) (w : World) (hA : Rd w A (cellsI q)) (hl : n ≤ 4398046511104) (hlc : n ≤ c) :
    Calls Tryz.prog 66 #[.slice A n c] w fun e w' => ∃ B d, e = .returned (.slice B n d) ∧ w'.ownsRow w.heap.size 3 1 (.slice B n d) n (cellsI q) ∧ Below w.heap.size w w' := by
  obtain ⟨i0, hi, hz0, hz1, hz2⟩ := info_parts infoI
  cases A with
  | none =>
    obtain rfl : q = [] := by
      cases q with
      | nil => rfl
      | cons x r => obtain ⟨ad, e, _⟩ := hA (by simp [cellsI]); cases e
    have heq : ∀ w : World, (binOp .eql 50 (.slice none n c) (.slice none 0 0)).run Tryz.prog w = .ok (.bool true) w := fun w => Lib.run_eql_slice_nil (P := Tryz.prog) w 50 3 none n c 0 0 Tryz.underlying50
    obtain rfl : n = 0 := hn.symm
    go_enter Tryz.func66, Tryz.ntmps66
    go_wp2
    go_ret
    exact ⟨none, 0, rfl, own_nil _ _ _ _, Below.refl _ _⟩
  | some ad =>
    have heq : ∀ w : World, (binOp .eql 50 (.slice (some ad) n c) (.slice none 0 0)).run Tryz.prog w = .ok (.bool false) w := fun w => Lib.run_eql_slice_nil (P := Tryz.prog) w 50 3 (some ad) n c 0 0 Tryz.underlying50
    have hown : (w.alloc (.cells #[] 3)).ownsRow w.heap.size 3 1 (.slice (some ⟨w.heap.size, 0, none⟩) 0 0) 0 [] := ⟨rfl, .inr ⟨_, 0, #[], rfl, Nat.le_refl _, World.alloc_heap_new _ _, Nat.le_refl _, Nat.zero_le _, rfl, rfl⟩⟩
    have hA2 := hA.below (below_new (.cells #[] 3))
    go_enter Tryz.func66, Tryz.ntmps66
    go_wp2_with (at_builtin; refine wpList_append_own _ rfl _ _ 50 rfl w.heap.size 3 i0 (.int .i64 0) 1 8 Tryz.underlying50 hi hz0 hz1 hz2 rfl (by decide) _ _ _ rfl hown ad n c (cellsI q) rfl ?c0 ?c1 ?c2 ?c3 ?c4 ?c5 ?_)
    case c0 => rw [cellsI_length]; omega
    case c1 =>
      intro j u hj
      obtain ⟨ad', e, h⟩ := hA2 (by rintro e; rw [e] at hj; simp at hj)
      cases e; exact h j u hj
    case c2 =>
      intro u hu
      simp only [cellsI, List.mem_map] at hu
      obtain ⟨f, _, rfl⟩ := hu
      rfl
    case c3 => simp only [maxLen]; omega
    case c4 => omega
    case c5 => simp
    intro v' w1 hown' hgrow _
    have hB := (below_new (w := w) (.cells #[] 3)).grown hgrow (by simp) (fun q hq => own_base hown q hq)
    obtain ⟨B, d, rfl, _, _, _⟩ := own_rd hown'
    clear hown hgrow
    go_wp2
    go_ret
    exact ⟨B, d, by simp, by simpa using hown', hB⟩
theorem SortI_m (base n : Nat) (q : List Int) (hn : q.length = n) (v : Value) (w : World) (ho : w.ownsRow base 3 1 v n (cellsI q)) (hl : n < 4611686018427387904) :
    Calls Tryz.prog 67 #[v] w fun e w' => e = .returned (.tuple #[]) ∧ w'.ownsRow base 3 1 v n (cellsI (q.mergeSort fun x y => decide (x ≤ y))) ∧ w.grownBy w' v.ownBlock := by
  subst hn
  have ho' := ho
  rcases ho.2 with ⟨rfl, h0⟩ | ⟨g, cap, cur, rfl, hb, hg, hc, hm, hs, ht⟩
  · obtain rfl : q = [] := List.eq_nil_of_length_eq_zero h0
    refine (AnyM.slices_Sort_int_none Tryz.laysSort none 0 w).mono ?_
    rintro e w' ⟨rfl, rfl⟩
    exact ⟨rfl, by simpa using ho', rfl, rfl, rfl, Nat.le_refl _, fun _ _ _ => rfl⟩
  · have hlt : g < w.heap.size := (Array.getElem?_eq_some_iff.1 hg).1
    refine (AnyM.slices_Sort_int Tryz.laysSort g 0 cap q w (holds_of_blockI hg (by rw [Nat.mul_one] at ht; exact ht)) hlt (by omega)).mono ?_
    rintro e w' ⟨rfl, k, os, rfl⟩
    exact ⟨rfl, ownsRow_sortedI (by rw [List.length_mergeSort]) hb hg hc hm hs, grownBy_sortedI _⟩
/-- append to a row of the call's own, as one step of a region that draws -/
theorem step_append_own {P : Program} {ops : Array Oper} {o : Oper} {a : Act} {w : World} {K : Act → World → Prop} {Q : Exit → Act → World → Prop} {E : Prop}
    (hg : o.guard = none) (s x : Operand) (t : TypeId) (hop : o.op = Op.call { callee := Callee.builtin Builtin.append, args := #[s, x], argTypes := #[t, t] })
    (base : Nat) (e : TypeId) (i : TypeInfo) (z : Value) (size bytes : Nat) (h1 : P.underlying t = some (.slice e)) (h2 : P.info? e = some i) (h3 : i.zero = some z) (h4 : i.size = size) (h5 : i.bytes = bytes) (h6 : z.cells.size = size) (h7 : 0 < size)
    (v : Value) (n : Nat) (xs : List Value) (hs : a.eval s = v) (hown : w.ownsRow base e size v n xs)
    (ad : Addr) (m c : Nat) (news : List Value) (hx : a.eval x = .slice (some ad) m c) (hn : news.length = m * size) (hc : ∀ j u, news[j]? = some u → w.cell? (ad.add j) = some u) (h1c : ∀ u ∈ news, u.oneCell' = true)
    (b1 : n + m ≤ maxLen) (b2 : (n + m) * bytes ≤ 140737488355328) (hbase : base ≤ w.heap.size)
    (hK : ∀ v' w', w'.ownsRow base e size v' (n + m) (xs ++ news) → w.grownBy w' v.ownBlock → (v'.ownBlock = v.ownBlock ∨ v'.ownBlock = some w.heap.size) → K (a.put o.dst v') w') :
    if Region.wanted o (yielded ops a.tmps) = true then Oper.wp P o a w K Q else E := by
  have hw : Region.wanted o (yielded ops a.tmps) = true := by simp [Region.wanted, hg]
  rw [if_pos hw]
  obtain ⟨v', w', hrun, r2, r3, _, r5⟩ := run_append_own_at (P := P) w base t o.type e i z size bytes h1 h2 h3 h4 h5 h6 h7 v n xs hown ad m c news hn hc h1c b1 b2 hbase
  unfold Oper.wp
  simp [execOp, hop, resolve, invoke, builtin, hs, hx, hrun, Result.andThen]
  exact hK v' w' r2 r3 r5
theorem rng_get {n k : Nat} (h : k < n) : (rng n)[k]? = some (k : Int) := by simp [rng, h]
/-- sorted, the numbers are all from 0 on just where they are these -/
theorem sorted_rng {q : List Int} {m : Nat} : permB q m = true ↔ q.length = m ∧ ∀ k : Nat, k < q.length → (q.mergeSort fun x y => decide (x ≤ y))[k]? = some (k : Int) := by
  have hp := List.mergeSort_perm q (fun x y => decide (x ≤ y))
  constructor
  · intro h
    have hl := perm_len h
    refine ⟨hl, fun k hk => ?_⟩
    have h1 : (q.mergeSort fun x y => decide (x ≤ y)).Perm (rng m) := hp.trans (of_decide_eq_true h)
    have h2 : (q.mergeSort fun x y => decide (x ≤ y)) = rng m := by
      refine List.Perm.eq_of_pairwise (le := fun x y : Int => x ≤ y) (fun a b _ _ h1 h2 => by omega) ?_ ?_ h1
      · have := List.pairwise_mergeSort (le := fun x y : Int => decide (x ≤ y)) (fun a b c h1 h2 => by simp at *; omega) (fun a b => by simp; omega) q
        exact this.imp (fun h => by simpa using h)
      · unfold rng
        rw [List.pairwise_map]
        exact List.pairwise_lt_range.imp (fun h => by omega)
    rw [h2]
    exact rng_get (by omega)
  · rintro ⟨hl, h⟩
    have h2 : (q.mergeSort fun x y => decide (x ≤ y)) = rng m := by
      apply List.ext_getElem?
      intro k
      by_cases hk : k < q.length
      · rw [h k hk, rng_get (by omega)]
      · rw [List.getElem?_eq_none (by rw [List.length_mergeSort]; omega), List.getElem?_eq_none (by rw [rng_length]; omega)]
    exact decide_eq_true (hp.symm.trans (by rw [h2]))
end Go.Proofs.YtehcpjodkadfnaaGreat
