/- Layer 6 of the heap, fields, ninth part: where references stand. -/
import Derived.Test.YtepfabijmhhhcaaGh
set_option linter.unusedSimpArgs false
set_option linter.unusedVariables false
namespace Go.Proofs.Ytepfabijmhhhcaa
open Go.RowKit
attribute [local go_sem] Oper.semAt_some

/-- where references stand -/
def refsS (xs : List (Nat × Fd)) : List Nat := (xs.filter fun x => decide (x.2.k = 11)).map Prod.fst
def refsL (fs : List Fd) : List Nat := if rightF fs = true then refsS (seqF 0 fs) else []
theorem refsS_snoc (xs : List (Nat × Fd)) (x : Nat × Fd) : refsS (xs ++ [x]) = if x.2.k = 11 then refsS xs ++ [x.1] else refsS xs := by
  unfold refsS
  rw [List.filter_append]
  by_cases h : x.2.k = 11 <;> simp [List.filter_cons, h]
theorem refsS_le (xs : List (Nat × Fd)) : (refsS xs).length ≤ xs.length := by
  unfold refsS; rw [List.length_map]; exact List.length_filter_le _ _
theorem appendedR {W w1 : World} {n₀ B1 base : Nat} {v v' : Value} {k m : Nat} {xs ys : List Value} {tmp : Obj}
    (hv : Boxed W B1 25 v) (hrow : W.ownsRow base 3 1 v k xs) (hn : n₀ ≤ B1) (h1b : B1 < base) (hbase : base ≤ W.heap.size)
    (hown' : w1.ownsRow base 3 1 v' m ys) (hgrow : (W.alloc tmp).grownBy w1 v.ownBlock) :
    Boxed w1 B1 25 v ∧ Boxed (w1.setCell ⟨B1, 0, none⟩ v') B1 25 v' ∧ (w1.setCell ⟨B1, 0, none⟩ v').ownsRow base 3 1 v' m ys ∧ KeepsOthers W (w1.setCell ⟨B1, 0, none⟩ v') ∧ KpF n₀ W (w1.setCell ⟨B1, 0, none⟩ v') := by
  have hne : ∀ {B : Nat}, B < base → some B ≠ v.ownBlock := fun hB e => by have := own_base hrow _ e.symm; omega
  have hne' : ∀ {B : Nat}, B < base → some B ≠ v'.ownBlock := fun hB e => by have := own_base hown' _ e.symm; omega
  have hv1 : Boxed w1 B1 25 v := (hv.alloc tmp).kept hgrow (hne h1b)
  have hko : KeepsOthers W w1 := (KeepsOthers.alloc W tmp).trans (KeepsOthers.of_grownBy hgrow fun j o ej hj => by
    rcases (hrow.alloc tmp).2 with ⟨rfl, _⟩ | ⟨g, cap, cur, rfl, _, hgb, _⟩
    · simp [Value.ownBlock] at ej
    · obtain rfl : g = j := by simpa [Value.ownBlock] using ej
      rw [hgb] at hj; cases hj; rfl)
  have hkf : KpF n₀ W w1 := ⟨((Below.refl n₀ W).alloc (by omega) tmp).grown hgrow (by simp; omega) (fun j ej => by have := own_base hrow j ej; omega), fun b cs d hb => by
    have hlt := (Array.getElem?_eq_some_iff.1 hb).1
    refine (hgrow.block b (by simp; omega) fun e => ?_).trans ((Below.heap_alloc _ _ _ hlt).trans hb)
    rcases hrow.2 with ⟨rfl, _⟩ | ⟨g, cap, cur, rfl, _, hgb, _⟩
    · simp [Value.ownBlock] at e
    · obtain rfl : b = g := by simpa [Value.ownBlock] using e
      rw [hgb] at hb; cases hb⟩
  exact ⟨hv1, hv1.set v', hown'.kept (grownBy_setCell' w1 B1 v') (.inr (hne' h1b).symm), hko.trans (KeepsOthers.setCell _ _ _), hkf.trans (KpF.setCell hv1 hn (by decide) _)⟩
set_option maxRecDepth 100000 in
set_option maxHeartbeats 4000000 in
theorem Refs_no (A : Option Addr) (c : Nat) (fs : List Fd) (hr : rightF fs = false) (w : World) (hA : Rd w A (cellsF fs)) (hl : fs.length ≤ 9223372036854775807) :
    Calls Try.prog 18 #[.slice A fs.length c] w fun e w' => e = .returned (.slice none 0 0) ∧ Below w.heap.size w w' := by
  have HR := Lib.hid hr
  clear hr
  go_enter Try.func18, Try.ntmps18
  go_wp2_with (go_at_call 15; refine (FRight_is _ _ _ _ HR.out _ hA hl).mono ?_; rintro e w1 ⟨rfl, hb1⟩)
  go_ret
  exact ⟨rfl, hb1⟩
set_option maxRecDepth 100000 in
set_option maxHeartbeats 4000000 in
theorem Refs_yes (A : Option Addr) (c : Nat) (fs : List Fd) (hr : rightF fs = true) (w : World) (hA : Rd w A (cellsF fs)) (hl : fs.length ≤ 9223372036854775807) :
    Calls Try.prog 18 #[.slice A fs.length c] w fun e w' => ∃ v, e = .returned v ∧ w'.ownsRow w.heap.size 3 1 v (refsS (seqF 0 fs)).length (intsV (refsS (seqF 0 fs))) ∧ Below w.heap.size w w' := by
  obtain ⟨i0, hi, hz0, hz1, hz2⟩ := info_parts infoInt
  obtain ⟨hmay, h16⟩ := rightF_may hr
  have HR := Lib.hid hr
  clear hr
  rw [← callsIn_wide (n := 3)]
  refine callsIn_of_wp_marks Try.func18 rfl trivial ?_ rfl
  simp only [Try.ntmps18, List.size_toArray, List.length_cons, List.length_nil, Nat.reduceAdd, Nat.reduceSub, Array.replicate_succ, Array.replicate_zero, List.push_toArray, List.append_toArray, List.nil_append, List.cons_append]
  gi_wp2_with (first
    | (refine ⟨trivial, ?_⟩; gi_at_call 15; refine (callsIn_wide.2 (FRight_is _ _ _ _ HR.out _ hA hl)).mono ?_; rintro e w1 ⟨rfl, hb1⟩)
    | (refine ⟨trivial, ?_⟩; gi_at_call 36; refine (callsIn_wide.2 (callsIn_wide.1 (places_calls A fs.length c _))).mono ?_; rintro e w2 ⟨rfl, rfl⟩))
  have b1 := (Boxed.new w1 25 (.slice none 0 0)).alloc (.cells #[.slice A fs.length c] 22)
  have b3 := Boxed.new (w1.alloc (.cells #[.slice none 0 0] 25)) 22 (.slice A fs.length c)
  simp only [World.size_alloc] at b3
  have hB0 : Below w.heap.size w ((w1.alloc (.cells #[.slice none 0 0] 25)).alloc (.cells #[.slice A fs.length c] 22)) := (hb1.alloc hb1.size _).alloc (by have := hb1.size; simp; omega) _
  have hsz : ((w1.alloc (.cells #[.slice none 0 0] 25)).alloc (.cells #[.slice A fs.length c] 22)).heap.size = w1.heap.size + 2 := by simp
  have hsw := hb1.size
  obtain ⟨W0, hW0⟩ : ∃ W0, (w1.alloc (.cells #[.slice none 0 0] 25)).alloc (.cells #[.slice A fs.length c] 22) = W0 := ⟨_, rfl⟩
  rw [hW0] at b1 b3 hB0 hsz ⊢
  clear hW0
  refine wpIn_rangeFunc_ownH rfl (by decide) (gf := 51) (lb := #[.pointer (some ⟨w1.heap.size + 1, 0, none⟩)]) rfl trivial (enters_of Try.func51 (by kernel_rfl) rfl)
    (places_stops 2 (by decide) (w1.heap.size + 1) A c fs hmay h16 w W0 hA hB0 b3.cell) KpF.trans (KpF.putObj (by omega)) (Below.refl _ _) (fun _ => rfl)
    (fun pre W => (∃ v, Boxed W w1.heap.size 25 v ∧ W.ownsRow W0.heap.size 3 1 v (refsS (pre.map Subtype.val)).length (intsV (refsS (pre.map Subtype.val))) ∧ True) ∧ Below w.heap.size w W)
    (fun _ _ _ => False)
    (OwnFrom.and (Own.from (holdsRow_own W0.heap.size w1.heap.size 25 3 1 (fun pre : List PF => (refsS (pre.map Subtype.val)).length) (fun pre => intsV (refsS (pre.map Subtype.val))) (fun _ _ => True)) _) (ownFrom_below (Nat.le_refl _) (by omega)))
    (fun _ _ _ _ _ hs _ _ => hs)
    ⟨⟨_, b1, own_nil _ _ _ _, trivial⟩, hB0⟩
    (fun x a' W => ∃ Bx, W.heap[Bx]? = some (.cells #[.string x.1.2.s, .int .i64 x.1.2.k, .int .i64 x.1.2.l] 40 (0, 0)) ∧ a' = { tmps := #[.slice A fs.length c, undef, .slice none 0 0, .pointer (some ⟨w1.heap.size, 0, none⟩), .int .i64 (x.1.1 : Int), .pointer (some ⟨Bx, 0, none⟩), .slice A fs.length c, .bool true, .bool false, .slice A fs.length c, .func (.func 51) #[] #[.pointer (some ⟨w1.heap.size + 1, 0, none⟩)], .int .i64 (x.1.1 : Int), .agg #[.string x.1.2.s, .int .i64 x.1.2.k, .int .i64 x.1.2.l], undef, undef, undef, undef, undef, undef, undef, undef], defers := [] })
    (fun x a' _ X Y row hs hg hr => by
      obtain ⟨Bx, h1, h2⟩ := hs
      exact ⟨Bx, (hg.block Bx (Array.getElem?_eq_some_iff.1 h1).1 (fun e => by obtain ⟨_, o, ho, hc⟩ := hr Bx e.symm; rw [h1] at ho; cases ho; cases hc)).trans h1, h2⟩)
    ?assign ?body ?done ?stop
  case assign =>
    rintro l pre x W K ⟨⟨v, hv, hrow, _⟩, hB1⟩ hK
    dsimp only [encPF]
    gi_wp2
    exact hK _ _ ((KeepsOthers.alloc _ _).from _) (KpF.alloc hB1.size _) ⟨⟨v, hv.alloc _, hrow.alloc _, trivial⟩, hB1.alloc hB1.size _⟩ ⟨W.heap.size, World.alloc_heap_new W _, rfl⟩
  case body =>
    rintro l pre x a' W hl ⟨r, hr⟩ ⟨⟨v, hv, hrow, _⟩, hB⟩ ⟨Bx, hX, rfl⟩ hlt
    have hc := hv.cell
    have hsW := hB.size
    obtain ⟨x0, x1, x2⟩ := FBox.of hX
    have hrsz : W0.heap.size ≤ W.heap.size := by
      have := (Array.getElem?_eq_some_iff.1 hr).1
      omega
    have hrl : (refsS (pre.map Subtype.val)).length ≤ 16 := by
      have := refsS_le (pre.map Subtype.val)
      rw [List.length_map] at this
      omega
    have hsn := refsS_snoc (pre.map Subtype.val) x.1
    by_cases hk : x.1.2.k = 11
    · have hk' : (x.1.2.k == 11) = true := by simpa using hk
      rw [if_pos hk] at hsn
      have HS := Lib.hid hsn
      clear hk hsn
      gi_wp2_with (gi_at_builtin; refine wpListIn_append_own _ rfl _ _ 25 rfl W0.heap.size 3 i0 (.int .i64 0) 1 8 Try.underlying25 hi hz0 hz1 hz2 rfl (by decide) _ _ _ rfl (hrow.alloc _) ⟨W.heap.size, 0, none⟩ 1 1 [.int .i64 (x.1.1 : Int)] rfl rfl (cell_one_new _ _ _) (by simp [Value.oneCell']) (by unfold maxLen; omega) (by omega) (by simp; omega) ?_; intro v' w2 hown' hgrow _; obtain ⟨g', cap', rfl⟩ := ownsRow_succ hown'; obtain ⟨hv1, hv2, hr2, hk2, hf2⟩ := appendedR (n₀ := w.heap.size) hv hrow (by omega) (by omega) hrsz hown' hgrow; have hc1 := hv1.cell; have hf1 := hv1.frozen)
      have e1 : (pre ++ [x]).map Subtype.val = pre.map Subtype.val ++ [x.1] := by simp
      refine ⟨hk2.from _, hf2, ⟨⟨_, hv2, ?_, trivial⟩, hB.trans hf2.below⟩⟩
      rw [e1, HS.out]
      have e2 : intsV (refsS (pre.map Subtype.val) ++ [x.1.1]) = intsV (refsS (pre.map Subtype.val)) ++ [.int .i64 (x.1.1 : Int)] := by simp [intsV]
      rw [e2, List.length_append]
      exact hr2
    · have hk' : (x.1.2.k == 11) = false := by simpa using hk
      rw [if_neg hk] at hsn
      have HS := Lib.hid hsn
      clear hk hsn
      gi_wp2
      have e1 : (pre ++ [x]).map Subtype.val = pre.map Subtype.val ++ [x.1] := by simp
      refine ⟨KeepsFrom.refl _ _, KpF.of_below (Below.refl _ _) hsW, ⟨⟨_, hv, ?_, trivial⟩, hB⟩⟩
      rw [e1, HS.out]
      exact hrow
  case done =>
    rintro D ys W hD hys ⟨⟨v, hv, hrow, _⟩, hB⟩ hK
    rw [hys] at hrow
    have hc := hv.cell
    clear hys
    gi_wp2
    refine ⟨by simp, .inl ⟨_, _, rfl, run_takeDeferred hK, ?_⟩⟩
    have hD2 : w.heap.size ≤ D := by omega
    exact ⟨_, results_tmp rfl _ _ _, v, rfl, own_mono (ownsRow_putObj hrow _ hK rfl) (by omega), hB.trans (belowK_b (w := w) (Nat.le_refl _) _ D _ _ hD2 hK rfl rfl)⟩
  case stop =>
    rintro D c' pre W _ _ h _
    exact h.elim
theorem Refs_calls (A : Option Addr) (c : Nat) (fs : List Fd) (w : World) (hA : Rd w A (cellsF fs)) (hl : fs.length ≤ 9223372036854775807) :
    Calls Try.prog 18 #[.slice A fs.length c] w fun e w' => ∃ v, e = .returned v ∧ w'.ownsRow w.heap.size 3 1 v (refsL fs).length (intsV (refsL fs)) ∧ Below w.heap.size w w' := by
  cases hr : rightF fs
  · refine (Refs_no A c fs hr w hA hl).mono ?_
    rintro e w' ⟨rfl, hb⟩
    have e1 : refsL fs = [] := by simp [refsL, hr]
    rw [e1]
    exact ⟨_, rfl, own_nil _ _ _ _, hb⟩
  · refine (Refs_yes A c fs hr w hA hl).mono ?_
    rintro e w' ⟨v, rfl, ho, hb⟩
    have e1 : refsL fs = refsS (seqF 0 fs) := by simp [refsL, hr]
    rw [e1]
    exact ⟨_, rfl, ho, hb⟩
end Go.Proofs.Ytepfabijmhhhcaa
