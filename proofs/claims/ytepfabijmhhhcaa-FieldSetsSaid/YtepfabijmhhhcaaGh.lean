/- Layer 6 of the heap, fields, eighth part: where fields stand. -/
import Derived.Test.YtepfabijmhhhcaaGg
set_option linter.unusedSimpArgs false
set_option linter.unusedVariables false
namespace Go.Proofs.Ytepfabijmhhhcaa
open Go.RowKit
attribute [local go_sem] Oper.semAt_some

theorem places_stops (n : Nat) (hn : 1 ≤ n) (Bl : Nat) (A : Option Addr) (c : Nat) (fs : List Fd) (hmay : MayF fs) (hlen : fs.length ≤ 16) (w0 w : World) (hA : Rd w0 A (cellsF fs)) (hb : Below w0.heap.size w0 w) (hBl : w.cell? ⟨Bl, 0, none⟩ = some (.slice A fs.length c)) :
    SeqStopsK Fence.wide n Try.prog 51 #[.pointer (some ⟨Bl, 0, none⟩)] encPF (KpF w0.heap.size) (fun ys => ys.map Subtype.val = seqF 0 fs) (fun _ => True) fs.length w := fun l J Jx W hW hJ _ hY h0 =>
  places1_in n hn l Bl A c fs hmay hlen w0 hA J Jx W hJ hY (cell_below (B := 0) hW hBl) (hb.trans (hW.mono hb.size)) h0
def intsV (l : List Nat) : List Value := l.map fun (n : Nat) => Value.int .i64 (n : Int)
/-- where fields stand -/
def layL (fs : List Fd) : List Nat := if rightF fs = true then (seqF 0 fs).map Prod.fst else []
/-- the bytes of an object -/
def sizeF (fs : List Fd) : Nat := if rightF fs = true then upN (endF 0 fs) 8 else 0
theorem infoInt : (Try.prog.info? 3).map (fun i => (i.zero, i.size, i.bytes)) = some (some (.int .i64 0), 1, 8) := by kernel_rfl
theorem rightF_may {fs : List Fd} (h : rightF fs = true) : MayF fs ∧ fs.length ≤ 16 := by
  simp only [rightF, Bool.and_eq_true, decide_eq_true_eq] at h
  refine ⟨fun f hf => ?_, h.2⟩
  obtain ⟨i, hi, rfl⟩ := List.getElem_of_mem hf
  have := h.1 i hi
  simp only [okF, Bool.and_eq_true] at this
  exact this.1.2
theorem FRight_is (A : Option Addr) (c : Nat) (fs : List Fd) (r : Bool) (h : rightF fs = r) (w : World) (hA : Rd w A (cellsF fs)) (hl : fs.length ≤ 9223372036854775807) :
    Calls Try.prog 15 #[.slice A fs.length c] w fun e w' => e = .returned (.bool r) ∧ Below w.heap.size w w' := h ▸ FRight_calls A c fs w hA hl
/-- where the last one that came ends -/
def lastF : List PF → Nat
  | [] => 0
  | [x] => x.1.1 + x.1.2.n
  | _ :: y :: r => lastF (y :: r)
theorem lastF_snoc (pre : List PF) (x : PF) : lastF (pre ++ [x]) = x.1.1 + x.1.2.n := by
  induction pre with
  | nil => rfl
  | cons y r ih =>
    cases r with
    | nil => rfl
    | cons z r => exact ih
theorem lastF_seq (ys : List PF) (fs : List Fd) (h : ys.map Subtype.val = seqF 0 fs) : lastF ys = endF 0 fs := by
  rcases List.eq_nil_or_concat fs with rfl | ⟨fs, f, rfl⟩
  · have : ys = [] := by simpa [seqF] using h
    subst this; rfl
  · rw [List.concat_eq_append, seqF_snoc] at h
    rcases List.eq_nil_or_concat ys with rfl | ⟨ys, y, rfl⟩
    · simp at h
    · rw [List.concat_eq_append, List.map_append] at h
      have h2 := (List.append_inj' h rfl).2
      simp at h2
      rw [List.concat_eq_append, List.concat_eq_append, lastF_snoc, endF_snoc, h2]
theorem KpF.alloc {n₀ : Nat} {W : World} (h : n₀ ≤ W.heap.size) (o : Obj) : KpF n₀ W (W.alloc o) := KpF.of_below (below_new o) h
theorem boxed_below {W W' : World} {B : Nat} {t : TypeId} {v : Value} (h : Boxed W B t v) (hb : Below W.heap.size W W') : Boxed W' B t v := (hb.block B h.lt).trans h
theorem KpF.setCell {n₀ : Nat} {W : World} {B : Nat} {t : TypeId} {u : Value} (h : Boxed W B t u) (hB : n₀ ≤ B) (ht : t ≠ 40) (v : Value) : KpF n₀ W (W.setCell ⟨B, 0, none⟩ v) :=
  ⟨(Below.refl _ _).setCell (p := ⟨B, 0, none⟩) hB v, fun b cs d hb => by
    refine (Below.heap_setCell _ _ _ b (fun e => ?_)).trans hb
    have e' : b = B := e
    subst e'
    rw [show W.heap[b]? = _ from h] at hb
    cases hb; exact ht rfl⟩
theorem KeepsOthers.of_below {W W' : World} (h : Below W.heap.size W W') : KeepsOthers W W' := KeepsOthers.of_grownBy (grown_of_below h) (fun _ _ e _ => by cases e)
/-- a slice that lies in a box is grown by one number: what the walk owes -/
theorem appendedF {W w1 : World} {n₀ B1 B2 base : Nat} {v v' u : Value} {k m : Nat} {xs ys : List Value} {tmp : Obj}
    (hv : Boxed W B1 25 v) (h2 : Boxed W B2 3 u) (hrow : W.ownsRow base 3 1 v k xs) (hn : n₀ ≤ B1) (h1b : B1 < base) (h2b : B2 < base) (h12 : B1 ≠ B2) (hbase : base ≤ W.heap.size)
    (hown' : w1.ownsRow base 3 1 v' m ys) (hgrow : (W.alloc tmp).grownBy w1 v.ownBlock) :
    Boxed w1 B1 25 v ∧ Boxed (w1.setCell ⟨B1, 0, none⟩ v') B1 25 v' ∧ Boxed (w1.setCell ⟨B1, 0, none⟩ v') B2 3 u ∧ (w1.setCell ⟨B1, 0, none⟩ v').ownsRow base 3 1 v' m ys ∧ KeepsOthers W (w1.setCell ⟨B1, 0, none⟩ v') ∧ KpF n₀ W (w1.setCell ⟨B1, 0, none⟩ v') := by
  have hne : ∀ {B : Nat}, B < base → some B ≠ v.ownBlock := fun hB e => by have := own_base hrow _ e.symm; omega
  have hne' : ∀ {B : Nat}, B < base → some B ≠ v'.ownBlock := fun hB e => by have := own_base hown' _ e.symm; omega
  have hv1 : Boxed w1 B1 25 v := (hv.alloc tmp).kept hgrow (hne h1b)
  have h21 : Boxed w1 B2 3 u := (h2.alloc tmp).kept hgrow (hne h2b)
  have hko : KeepsOthers W w1 := (KeepsOthers.alloc W tmp).trans (KeepsOthers.of_grownBy hgrow fun j o ej hj => by
    rcases (hrow.alloc tmp).2 with ⟨rfl, _⟩ | ⟨g, cap, cur, rfl, _, hgb, _⟩
    · simp [Value.ownBlock] at ej
    · obtain rfl : g = j := by simpa [Value.ownBlock] using ej
      rw [hgb] at hj; cases hj; rfl)
  have hkf : KpF n₀ W w1 := ⟨((Below.refl n₀ W).alloc (by omega) tmp).grown hgrow (by simp; omega) (fun j ej => by have := own_base hrow j ej; omega), fun b cs d hb => by
    have hlt := (Array.getElem?_eq_some_iff.1 hb).1
    refine (hgrow.block b (by simp; omega) fun e => ?_).trans ((Below.heap_alloc _ _ _ hlt).trans hb)
    rcases hrow.2 with ⟨rfl, _⟩ | ⟨g, cap, cur, rfl, _, hgb, _⟩
    · simp [Value.ownBlock] at e
    · obtain rfl : b = g := by simpa [Value.ownBlock] using e
      rw [hgb] at hb; cases hb⟩
  exact ⟨hv1, hv1.set v', h21.other (Ne.symm h12) _, hown'.kept (grownBy_setCell' w1 B1 v') (.inr (hne' h1b).symm), hko.trans (KeepsOthers.setCell _ _ _), hkf.trans (KpF.setCell hv1 hn (by decide) _)⟩
set_option maxRecDepth 100000 in
set_option maxHeartbeats 4000000 in
theorem Layout_no (A : Option Addr) (c : Nat) (fs : List Fd) (hr : rightF fs = false) (w : World) (hA : Rd w A (cellsF fs)) (hl : fs.length ≤ 9223372036854775807) :
    Calls Try.prog 13 #[.slice A fs.length c] w fun e w' => e = .returned (.tuple #[.slice none 0 0, .int .i64 0]) ∧ Below w.heap.size w w' := by
  have HR := Lib.hid hr
  clear hr
  go_enter Try.func13, Try.ntmps13
  go_wp2_with (go_at_call 15; refine (FRight_is _ _ _ _ HR.out _ hA hl).mono ?_; rintro e w1 ⟨rfl, hb1⟩)
  go_ret2
  exact ⟨rfl, hb1⟩
set_option maxRecDepth 100000 in
set_option maxHeartbeats 4000000 in
theorem Layout_yes (A : Option Addr) (c : Nat) (fs : List Fd) (hr : rightF fs = true) (w : World) (hA : Rd w A (cellsF fs)) (hl : fs.length ≤ 9223372036854775807) :
    Calls Try.prog 13 #[.slice A fs.length c] w fun e w' => ∃ v, e = .returned (.tuple #[v, .int .i64 (upN (endF 0 fs) 8 : Nat)]) ∧ w'.ownsRow w.heap.size 3 1 v fs.length (intsV ((seqF 0 fs).map Prod.fst)) ∧ Below w.heap.size w w' := by
  obtain ⟨i0, hi, hz0, hz1, hz2⟩ := info_parts infoInt
  obtain ⟨hmay, h16⟩ := rightF_may hr
  have hend := endF_le (nx := 0) hmay
  have HR := Lib.hid hr
  clear hr
  rw [← callsIn_wide (n := 3)]
  refine callsIn_of_wp_marks Try.func13 rfl trivial ?_ rfl
  simp only [Try.ntmps13, List.size_toArray, List.length_cons, List.length_nil, Nat.reduceAdd, Nat.reduceSub, Array.replicate_succ, Array.replicate_zero, List.push_toArray, List.append_toArray, List.nil_append, List.cons_append]
  gi_wp2_with (first
    | (refine ⟨trivial, ?_⟩; gi_at_call 15; refine (callsIn_wide.2 (FRight_is _ _ _ _ HR.out _ hA hl)).mono ?_; rintro e w1 ⟨rfl, hb1⟩)
    | (refine ⟨trivial, ?_⟩; gi_at_call 36; refine (callsIn_wide.2 (callsIn_wide.1 (places_calls A fs.length c _))).mono ?_; rintro e w2 ⟨rfl, rfl⟩))
  have b1 := ((Boxed.new w1 25 (.slice none 0 0)).alloc (.cells #[.int .i64 0] 3)).alloc (.cells #[.slice A fs.length c] 22)
  have b2 := (Boxed.new (w1.alloc (.cells #[.slice none 0 0] 25)) 3 (.int .i64 0)).alloc (.cells #[.slice A fs.length c] 22)
  have b3 := Boxed.new ((w1.alloc (.cells #[.slice none 0 0] 25)).alloc (.cells #[.int .i64 0] 3)) 22 (.slice A fs.length c)
  simp only [World.size_alloc] at b2 b3
  have hB0 : Below w.heap.size w (((w1.alloc (.cells #[.slice none 0 0] 25)).alloc (.cells #[.int .i64 0] 3)).alloc (.cells #[.slice A fs.length c] 22)) := ((hb1.alloc hb1.size _).alloc (by have := hb1.size; simp; omega) _).alloc (by have := hb1.size; simp; omega) _
  have hsz : (((w1.alloc (.cells #[.slice none 0 0] 25)).alloc (.cells #[.int .i64 0] 3)).alloc (.cells #[.slice A fs.length c] 22)).heap.size = w1.heap.size + 3 := by simp
  have hsw := hb1.size
  obtain ⟨W0, hW0⟩ : ∃ W0, ((w1.alloc (.cells #[.slice none 0 0] 25)).alloc (.cells #[.int .i64 0] 3)).alloc (.cells #[.slice A fs.length c] 22) = W0 := ⟨_, rfl⟩
  rw [hW0] at b1 b2 b3 hB0 hsz ⊢
  clear hW0
  refine wpIn_rangeFunc_ownH rfl (by decide) (gf := 51) (lb := #[.pointer (some ⟨w1.heap.size + 1 + 1, 0, none⟩)]) rfl trivial (enters_of Try.func51 (by kernel_rfl) rfl)
    (places_stops 2 (by decide) (w1.heap.size + 1 + 1) A c fs hmay h16 w W0 hA hB0 b3.cell) KpF.trans (KpF.putObj (by omega)) (Below.refl _ _) (fun _ => rfl)
    (fun pre W => ((∃ v, Boxed W w1.heap.size 25 v ∧ W.ownsRow W0.heap.size 3 1 v pre.length (intsV (pre.map fun x => x.1.1)) ∧ True) ∧ Boxed W (w1.heap.size + 1) 3 (.int .i64 (lastF pre : Nat))) ∧ Below w.heap.size w W)
    (fun _ _ _ => False)
    (OwnFrom.and (OwnFrom.and (Own.from (holdsRow_own W0.heap.size w1.heap.size 25 3 1 (fun pre : List PF => pre.length) (fun pre => intsV (pre.map fun x => x.1.1)) (fun _ _ => True)) _) (Own.from (boxed_own _ _ _) _)) (ownFrom_below (Nat.le_refl _) (by omega)))
    (fun _ _ _ _ _ hs _ _ => hs)
    ⟨⟨⟨_, b1, own_nil _ _ _ _, trivial⟩, b2⟩, hB0⟩
    (fun x a' W => ∃ Bx, W.heap[Bx]? = some (.cells #[.string x.1.2.s, .int .i64 x.1.2.k, .int .i64 x.1.2.l] 40 (0, 0)) ∧ a' = { tmps := #[.slice A fs.length c, undef, .slice none 0 0, .int .i64 0, .pointer (some ⟨w1.heap.size, 0, none⟩), .pointer (some ⟨w1.heap.size + 1, 0, none⟩), .int .i64 (x.1.1 : Int), .pointer (some ⟨Bx, 0, none⟩), .slice A fs.length c, .bool true, .bool false, .slice A fs.length c, .func (.func 51) #[] #[.pointer (some ⟨w1.heap.size + 1 + 1, 0, none⟩)], .int .i64 (x.1.1 : Int), .agg #[.string x.1.2.s, .int .i64 x.1.2.k, .int .i64 x.1.2.l], undef, undef, undef, undef, undef, undef, undef, undef, undef, undef, undef], defers := [] })
    (fun x a' _ X Y row hs hg hr => by
      obtain ⟨Bx, h1, h2⟩ := hs
      exact ⟨Bx, (hg.block Bx (Array.getElem?_eq_some_iff.1 h1).1 (fun e => by obtain ⟨_, o, ho, hc⟩ := hr Bx e.symm; rw [h1] at ho; cases ho; cases hc)).trans h1, h2⟩)
    ?assign ?body ?done ?stop
  case assign =>
    rintro l pre x W K ⟨⟨⟨v, hv, hrow, _⟩, hb2⟩, hB1⟩ hK
    dsimp only [encPF]
    gi_wp2
    exact hK _ _ ((KeepsOthers.alloc _ _).from _) (KpF.alloc hB1.size _) ⟨⟨⟨v, hv.alloc _, hrow.alloc _, trivial⟩, hb2.alloc _⟩, hB1.alloc hB1.size _⟩ ⟨W.heap.size, World.alloc_heap_new W _, rfl⟩
  case body =>
    rintro l pre x a' W hl ⟨r, hr⟩ ⟨⟨⟨v, hv, hrow, _⟩, h2⟩, hB⟩ ⟨Bx, hX, rfl⟩ hlt
    have hc := hv.cell
    have hx1 := x.2
    have hx2 := Fd.n_le x.1.2
    have HL := Lib.hid (Fd.n_eq x.1.2).symm
    have hsW := hB.size
    have hb2lt := h2.lt
    have hrsz : W0.heap.size ≤ W.heap.size := by
      have := (Array.getElem?_eq_some_iff.1 hr).1
      omega
    gi_wp2_with (first
      | (gi_at_builtin; refine wpListIn_append_own _ rfl _ _ 25 rfl W0.heap.size 3 i0 (.int .i64 0) 1 8 Try.underlying25 hi hz0 hz1 hz2 rfl (by decide) _ _ _ rfl (hrow.alloc _) ⟨W.heap.size, 0, none⟩ 1 1 [.int .i64 (x.1.1 : Int)] rfl rfl (cell_one_new _ _ _) (by simp [Value.oneCell']) (by unfold maxLen; omega) (by omega) (by simp; omega) ?_; intro v' w2 hown' hgrow _; obtain ⟨g', cap', rfl⟩ := ownsRow_succ hown'; obtain ⟨hv1, hv2, h22, hr2, hk2, hf2⟩ := appendedF (n₀ := w.heap.size) hv h2 hrow (by omega) (by omega) (by omega) (by omega) hrsz hown' hgrow; have hc1 := hv1.cell; have hf1 := hv1.frozen; obtain ⟨x0, x1, x2⟩ := FBox.of (hf2.fld _ _ _ hX))
      | (refine ⟨trivial, ?_⟩; gi_at_call 37; refine (CallsIn.inRound l (callsIn_wide.2 (Long_is _ _ _ _ HL.out _))).mono ?_; rintro e w3 ⟨rfl, hb3⟩; have hv3 := boxed_below hv2 hb3; have h23 := boxed_below h22 hb3; have hr3 := own_below hr2 hb3; have hc3 := h23.cell; have hf3 := h23.frozen))
    have hz2 := hf2.below.size
    have hz3 := hb3.size
    have hk3 := hk2.trans (KeepsOthers.of_below hb3)
    have hf3' := hf2.trans (KpF.of_below hb3 (Nat.le_trans hsW hz2))
    have hkp := hf3'.trans (KpF.setCell h23 (n₀ := w.heap.size) (by omega) (by decide) (.int .i64 ((x.1.1 : Int) + (x.1.2.n : Int))))
    refine ⟨(hk3.trans (KeepsOthers.setCell _ _ _)).from _, hkp, ⟨⟨⟨_, hv3.other (by omega) _, ?_, trivial⟩, ?_⟩, hB.trans hkp.below⟩⟩
    · have e : intsV ((pre ++ [x]).map fun x => x.1.1) = intsV (pre.map fun x => x.1.1) ++ [.int .i64 (x.1.1 : Int)] := by simp [intsV]
      rw [e, List.length_append]
      exact hr3.kept (grownBy_setCell' _ _ _) (.inr fun e => by have := own_base hr3 _ e; omega)
    · rw [lastF_snoc]
      exact h23.set _
  case done =>
    rintro D ys W hD hys ⟨⟨⟨v, hv, hrow, _⟩, h2⟩, hB⟩ hK
    have hlast := lastF_seq ys fs hys
    have hyl : ys.length = fs.length := by
      have := congrArg List.length hys
      rwa [List.length_map, seqF_length] at this
    have hyv : ys.map (fun x => x.1.1) = (seqF 0 fs).map Prod.fst := by rw [← hys, List.map_map]; rfl
    rw [hyv, hyl] at hrow
    rw [hlast] at h2
    have hc := hv.cell
    have hc2 := h2.cell
    clear hlast hyl hyv hys
    gi_wp2
    rw [wpIn_wide]
    refine RW.start (fun w' => Below w.heap.size w w' ∧ w'.cell? ⟨w1.heap.size, 0, none⟩ = some v ∧ w'.cell? ⟨w1.heap.size + 1, 0, none⟩ = some (.int .i64 (endF 0 fs : Nat)) ∧ w'.ownsRow W0.heap.size 3 1 v fs.length (intsV ((seqF 0 fs).map Prod.fst)) ∧ w'.heap[D]? = some (.deferred (some []))) (by kernel_rfl) (by kernel_rfl) ⟨hB.drew, hc, hc2, hrow, hK⟩ ?_
    clear hB hc hc2 hrow hK hv h2
    repeat (first
      | (refine' RW.val (by rfl) ?_ ?_; rotate_left; (focus (intro w' hS; obtain ⟨HB, hc, hc2, hrow, hK⟩ := hS; go_simp; rfl)); simp only [Act.put, List.setIfInBounds_toArray, List.set_cons_zero, List.set_cons_succ])
      | (refine RW.off (by rfl) ?_; simp only [Act.put, List.setIfInBounds_toArray, List.set_cons_zero, List.set_cons_succ])
      | (refine' RW.call (by rfl) ?_ ?_ ?_
         rotate_left 3
         (focus (intro w' hS; obtain ⟨HB, hc, hc2, hrow, hK⟩ := hS; go_simp; exact ⟨rfl, rfl⟩))
         (focus
           intro w' hS
           obtain ⟨HB, hc, hc2, hrow, hK⟩ := hS
           first
             | (refine (up_calls (endF 0 fs) 8 (by omega) (by omega) _).mono ?_; rintro e w1 ⟨rfl, rfl⟩; exact ⟨rfl, HB, hc, hc2, hrow, hK⟩))
         simp only [Act.put, List.setIfInBounds_toArray, List.set_cons_zero, List.set_cons_succ]))
    refine RW.done (fun w' hS => ?_)
    obtain ⟨HB, hc, hc2, hrow, hK⟩ := hS
    gi_wp2
    refine ⟨by simp, .inl ⟨_, _, rfl, run_takeDeferred hK, ?_⟩⟩
    have hD2 : w.heap.size ≤ D := by omega
    exact ⟨_, results_tmp2 rfl _ _ _, v, rfl, own_mono (ownsRow_putObj hrow _ hK rfl) (by omega), HB.trans (belowK_b (w := w) (Nat.le_refl _) _ D _ _ hD2 hK rfl rfl)⟩
  case stop =>
    rintro D c' pre W _ _ h _
    exact h.elim
theorem Layout_calls (A : Option Addr) (c : Nat) (fs : List Fd) (w : World) (hA : Rd w A (cellsF fs)) (hl : fs.length ≤ 9223372036854775807) :
    Calls Try.prog 13 #[.slice A fs.length c] w fun e w' => ∃ v, e = .returned (.tuple #[v, .int .i64 (sizeF fs : Nat)]) ∧ w'.ownsRow w.heap.size 3 1 v (layL fs).length (intsV (layL fs)) ∧ Below w.heap.size w w' := by
  cases hr : rightF fs
  · refine (Layout_no A c fs hr w hA hl).mono ?_
    rintro e w' ⟨rfl, hb⟩
    have e1 : layL fs = [] := by simp [layL, hr]
    have e2 : sizeF fs = 0 := by simp [sizeF, hr]
    rw [e1, e2]
    exact ⟨_, rfl, own_nil _ _ _ _, hb⟩
  · refine (Layout_yes A c fs hr w hA hl).mono ?_
    rintro e w' ⟨v, rfl, ho, hb⟩
    have e1 : layL fs = (seqF 0 fs).map Prod.fst := by simp [layL, hr]
    have e2 : sizeF fs = upN (endF 0 fs) 8 := by simp [sizeF, hr]
    rw [e1, e2, List.length_map, seqF_length]
    exact ⟨_, rfl, ho, hb⟩
end Go.Proofs.Ytepfabijmhhhcaa
