/- A region that draws its order of evaluation, where each operation yields one value in every world of a kind, and leaves such a world: it is walked once, in the order of the text. -/
import Derived.Test.YtepfabijmhhhcaaLb
import Derived.OrdersHeld
import Derived.Deep.RegionHeld
set_option linter.unusedSimpArgs false
set_option linter.unusedVariables false
namespace Go.Proofs.Ytepfabijmhhhcaa
open Go.RowKit
section
variable {P : Program} {ops : Array Oper} {Q : Exit → Act → World → Prop} {md : Region.Mode} {S : World → Prop}

/-- In every world that meets S this gives v, and a world that meets S. -/
def Gives (P : Program) (S : World → Prop) (m : Sem Next) (v : Value) : Prop :=
  ∀ w, S w → (∃ w1, m.run P w = .ok (.value v) w1 ∧ S w1) ∨ (∃ f args w1, m.run P w = .ok (.enter f args) w1 ∧ Calls P f args w1 fun e w' => e = .returned v ∧ S w')
def YU (P : Program) (ops : Array Oper) (S : World → Prop) (o : Oper) (v : Value) (a : Act) : Prop :=
  (Region.wanted o (yielded ops a.tmps) = true ∧ Gives P S (execOp a.eval o) v) ∨ (Region.wanted o (yielded ops a.tmps) = false ∧ v = undef)
theorem YU.of_same {o : Oper} {v : Value} {a a' : Act} (hy : YU P ops S o v a) (he : execOp a'.eval o = execOp a.eval o)
    (hw : Region.wanted o (yielded ops a'.tmps) = Region.wanted o (yielded ops a.tmps)) : YU P ops S o v a' := by
  unfold YU at *; rw [he, hw]; exact hy
theorem YU.wpOp {i : Nat} {o : Oper} {v : Value} {a : Act} (hi : ops[i]? = some o) (hy : YU P ops S o v a)
    {K : Act → World → Prop} {w : World} (hS : S w) (h : ∀ w', S w' → K (a.put o.dst v) w') : wpOp P ops Q i K a w := by
  unfold Go.wpOp
  simp only [hi]
  rcases hy with ⟨hw, hv⟩ | ⟨hw, rfl⟩
  · simp only [hw, if_true, Oper.wp]
    refine .inl ?_
    rcases hv w hS with ⟨w1, e, h1⟩ | ⟨f, args, w1, e, h1⟩
    · rw [e]; exact h _ h1
    · rw [e]; exact h1.mono fun e w' ⟨he, hs⟩ => by subst he; exact h _ hs
  · simp only [hw, Bool.false_eq_true, if_false]; exact h _ hS
/-- Whatever order is picked from here on: each operation's value is known, whatever the world. -/
def wpAnyU (P : Program) (md : Region.Mode) (ops : Array Oper) (Q : Exit → Act → World → Prop) (S : World → Prop) : Nat → Array Bool → Act → Prop
  | 0, listed, a => Region.ready md ops listed = [] ∧ ∀ w, S w → Q .normal a w
  | fuel + 1, listed, a =>
    (Region.ready md ops listed = [] → ∀ w, S w → Q .normal a w) ∧
    ∀ i ∈ Region.ready md ops listed, ∃ o v, ops[i]? = some o ∧ YU P ops S o v a ∧ wpAnyU P md ops Q S fuel (listed.setIfInBounds i true) (a.put o.dst v)
theorem wpAny_of_U : ∀ (fuel : Nat) (listed : Array Bool) (a : Act) (w : World), S w → wpAnyU P md ops Q S fuel listed a → wpAny P md ops Q fuel listed a w
  | 0, _, _, w, hS, h => ⟨h.1, h.2 w hS⟩
  | fuel + 1, _, _, w, hS, h => ⟨fun hr => h.1 hr w hS, fun i hi => by
      obtain ⟨o, v, ho, hy, hn⟩ := h.2 i hi
      exact hy.wpOp ho hS fun w' hS' => wpAny_of_U fuel _ _ w' hS' hn⟩
theorem wpAnyU_first {i : Nat} {oi : Oper} {v : Value} (hi : ops[i]? = some oi) (hsel : ∀ (j : Nat) (o : Oper) cs b, ops[j]? = some o → o.op ≠ .select cs b) :
    ∀ (fuel : Nat) (listed : Array Bool) (a : Act),
      (∀ j oj, ops[j]? = some oj → j ≠ i → listed.getD j true = false → (∀ e ∈ oj.after, Region.binds md e = true → e.on ≠ i) → oi.apart ops oj = true) →
      i ∈ Region.ready md ops listed → YU P ops S oi v a →
      wpAnyU P md ops Q S fuel (listed.setIfInBounds i true) (a.put oi.dst v) → wpAnyU P md ops Q S (fuel + 1) listed a := by
  intro fuel
  induction fuel with
  | zero =>
    intro listed a _ hr hy H
    refine ⟨fun h => (by rw [h] at hr; cases hr), fun j hj => ?_⟩
    by_cases hji : j = i
    · subst hji; exact ⟨oi, v, hi, hy, H⟩
    · have := ready_mono hj hji
      rw [H.1] at this
      cases this
  | succ fuel ih =>
    intro listed a hfree hr hy H
    refine ⟨fun h => (by rw [h] at hr; cases hr), fun j hj => ?_⟩
    by_cases hji : j = i
    · subst hji; exact ⟨oi, v, hi, hy, H⟩
    · obtain ⟨oj, u, hoj, hyj, hn⟩ := H.2 j (ready_mono hj hji)
      obtain ⟨hjun, oj', hoj', hall⟩ := mem_ready.1 hj
      obtain rfl : oj' = oj := by rw [hoj] at hoj'; exact (Option.some.inj hoj').symm
      have hnot : ∀ e ∈ oj'.after, Region.binds md e = true → e.on ≠ i := fun e he hb heq => by
        have h1 := hall e he hb
        have h0 := (mem_ready.1 hr).1
        rw [heq] at h1
        rcases Nat.lt_or_ge i listed.size with h' | h'
        · simp [h'] at h0 h1; rw [h0] at h1; cases h1
        · simp [Array.getElem?_eq_none h'] at h1
      have hap := hfree j oj' hoj hji hjun hnot
      obtain ⟨h1, h2, h3⟩ := Oper.apart_spec hap
      have hsj := fun cs b => hsel j oj' cs b hoj
      have hsi := fun cs b => hsel i oi cs b hi
      refine ⟨oj', u, hoj, hyj.of_same (execOp_put oj' hsj a oi.dst v h1).symm (wanted_put oj' a oi.dst v h1).symm, ?_⟩
      have hfree' : ∀ k ok, ops[k]? = some ok → k ≠ i → (listed.setIfInBounds j true).getD k true = false →
          (∀ e ∈ ok.after, Region.binds md e = true → e.on ≠ i) → oi.apart ops ok = true := fun k ok hk hki hun hno => by
        refine hfree k ok hk hki ?_ hno
        by_cases hjk : j = k
        · subst hjk; exact hjun
        · rw [getD_set_ne true hjk] at hun; exact hun
      refine ih (listed.setIfInBounds j true) (a.put oj'.dst u) hfree' (ready_mono hr (Ne.symm hji)) (hy.of_same (execOp_put oi hsi a oj'.dst u h3) (wanted_put oi a oj'.dst u h3)) ?_
      rw [Array.setIfInBounds_comm _ _ hji, ← Act.put_comm a v u h2]
      exact hn
def upto (n i : Nat) : Array Bool := (List.replicate i true ++ List.replicate (n - i) false).toArray
/-- May the operations be taken in the text's order? -/
def inOrder (md : Region.Mode) (ops : Array Oper) : Bool :=
  Region.noSelect ops && (List.range ops.size).all fun i => Region.free md ops (upto ops.size i) i && (Region.ready md ops (upto ops.size i)).contains i
/-- What is left of the region, from operation i on. -/
def RW (P : Program) (ops : Array Oper) (Q : Exit → Act → World → Prop) (S : World → Prop) (rest : List Oper) (i : Nat) (a : Act) : Prop :=
  ops.toList.drop i = rest → inOrder .any ops = true → wpAnyU P .any ops Q S (ops.size - i) (upto ops.size i) a
theorem upto_succ (n i : Nat) (h : i < n) : (upto n i).setIfInBounds i true = upto n (i + 1) := by
  apply Array.ext'
  simp only [upto, Array.toList_setIfInBounds, List.toList_toArray]
  obtain ⟨m, hm⟩ : ∃ m, n - i = m + 1 := ⟨n - i - 1, by omega⟩
  rw [hm, show n - (i + 1) = m by omega, List.replicate_succ, List.set_append_right _ _ (by simp)]
  simp [List.replicate_succ', List.append_assoc]
theorem RW.take {o : Oper} {rest : List Oper} {v : Value} {i : Nat} {a : Act} (hy : YU P ops S o v a) (h : RW P ops Q S rest (i + 1) (a.put o.dst v)) : RW P ops Q S (o :: rest) i a := by
  intro hd hc
  have hlt : i < ops.size := by
    rcases Nat.lt_or_ge i ops.size with h | h
    · exact h
    · rw [List.drop_of_length_le (by simpa using h)] at hd; cases hd
  have hi : ops[i]? = some o := by
    have := congrArg List.head? hd
    simpa [List.head?_drop] using this
  have hr : ops.toList.drop (i + 1) = rest := by rw [← List.tail_drop, hd]; rfl
  have h1 := h hr hc
  simp only [inOrder, Bool.and_eq_true, List.all_eq_true, List.mem_range] at hc
  obtain ⟨hs, hall⟩ := hc
  obtain ⟨hf, hrd⟩ := hall i hlt
  rw [show ops.size - i = (ops.size - (i + 1)) + 1 by omega]
  refine wpAnyU_first hi (Region.noSelect_spec hs) _ _ a (Region.free_spec hi hf) (by simpa using hrd) hy ?_
  rw [upto_succ _ _ hlt]
  exact h1
/-- A value, the world as it was. -/
theorem RW.val {o : Oper} {rest : List Oper} {v : Value} {i : Nat} {a : Act} (hw : Region.wanted o (yielded ops a.tmps) = true) (hy : ∀ w, S w → (execOp a.eval o).run P w = .ok (.value v) w)
    (h : RW P ops Q S rest (i + 1) (a.put o.dst v)) : RW P ops Q S (o :: rest) i a := RW.take (.inl ⟨hw, fun w hS => .inl ⟨w, hy w hS, hS⟩⟩) h
/-- It is passed over. -/
theorem RW.off {o : Oper} {rest : List Oper} {i : Nat} {a : Act} (hw : Region.wanted o (yielded ops a.tmps) = false)
    (h : RW P ops Q S rest (i + 1) (a.put o.dst undef)) : RW P ops Q S (o :: rest) i a := RW.take (.inr ⟨hw, rfl⟩) h
/-- A call. -/
theorem RW.call {o : Oper} {rest : List Oper} {v : Value} {f : FuncId} {args : Array Value} {i : Nat} {a : Act} (hw : Region.wanted o (yielded ops a.tmps) = true) (he : ∀ w, S w → (execOp a.eval o).run P w = .ok (.enter f args) w)
    (hc : ∀ w, S w → Calls P f args w fun e w' => e = .returned v ∧ S w') (h : RW P ops Q S rest (i + 1) (a.put o.dst v)) : RW P ops Q S (o :: rest) i a :=
  RW.take (.inl ⟨hw, fun w hS => .inr ⟨f, args, w, he w hS, hc w hS⟩⟩) h
/-- The end. -/
theorem RW.done {i : Nat} {a : Act} (h : ∀ w, S w → Q .normal a w) : RW P ops Q S [] i a := by
  intro hd _
  have hge : ops.size ≤ i := by simpa using List.drop_eq_nil_iff.1 hd
  rw [show ops.size - i = 0 by omega]
  refine ⟨?_, h⟩
  unfold Region.ready
  rw [List.filter_eq_nil_iff]
  intro j hj
  have hj' : j < ops.size := by simpa using hj
  simp only [upto]
  rw [show ops.size - i = 0 by omega]
  simp [List.getElem?_replicate, show j < i by omega, Array.getElem?_eq_getElem hj']
/-- The beginning. -/
theorem RW.start (S : World → Prop) {id : Nat} {l : List Oper} {a : Act} {w : World} (hm : P.follows .mixedOrders = true) (hc : inOrder .any l.toArray = true) (hS : S w.drew)
    (h : RW P l.toArray Q S l 0 a) : (Code.region id l.toArray true).wp P Q a w := by
  refine wp_region_any hm (wpAny_of_U _ _ _ _ hS ?_)
  have := h (by simp) hc
  simpa [upto] using this
end
end Go.Proofs.Ytepfabijmhhhcaa
