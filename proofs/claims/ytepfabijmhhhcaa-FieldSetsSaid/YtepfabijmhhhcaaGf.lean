/- Layer 6 of the heap, fields, sixth part: places, one after the other. -/
import Derived.Test.YtepfabijmhhhcaaGe
import Derived.RangeFuncNested
import Derived.RangeFuncBox
import Derived.RangeFuncLeaves
import Derived.RangeFuncCalls
import Derived.Shelf.Abstract
import Derived.OwnWalkIn
import Derived.TacticsInMore
import Derived.LoopNIn
import Derived.LoopIn
import Derived.Maps.AppendAt
set_option linter.unusedSimpArgs false
set_option linter.unusedVariables false
namespace Go.Proofs.Ytepfabijmhhhcaa
open Go.RowKit

/-- the bytes of a field -/
def Fd.n (f : Fd) : Nat := (longZ f.k f.l).toNat
theorem Fd.n_eq (f : Fd) : (f.n : Int) = longZ f.k f.l := by have := long_ge f.k f.l; unfold Fd.n; omega
theorem Fd.n_le (f : Fd) : f.n ≤ 64 := by have := long_ge f.k f.l; unfold Fd.n; omega
theorem Fd.n_pos {f : Fd} (h : mayB f.k f.l = true) : 0 < f.n := by
  have := long_ge f.k f.l
  have : ¬ longZ f.k f.l = 0 := fun e => by rw [(long_zero _ _).1 e] at h; cases h
  unfold Fd.n; omega
/-- where a field begins that comes behind a place -/
def atF (nx : Nat) (f : Fd) : Nat := if f.k = 12 then nx else upN nx f.n
/-- where the last of some fields ends -/
def endF : Nat → List Fd → Nat
  | nx, [] => nx
  | nx, f :: r => endF (atF nx f + f.n) r
/-- the fields, each with its place -/
def seqF : Nat → List Fd → List (Nat × Fd)
  | _, [] => []
  | nx, f :: r => (atF nx f, f) :: seqF (atF nx f + f.n) r
theorem endF_snoc (nx : Nat) (a : List Fd) (f : Fd) : endF nx (a ++ [f]) = atF (endF nx a) f + f.n := by
  induction a generalizing nx with
  | nil => rfl
  | cons g r ih => exact ih _
theorem seqF_snoc (nx : Nat) (a : List Fd) (f : Fd) : seqF nx (a ++ [f]) = seqF nx a ++ [(atF (endF nx a) f, f)] := by
  induction a generalizing nx with
  | nil => rfl
  | cons g r ih => simp only [List.cons_append, seqF, ih, endF]
theorem seqF_length (nx : Nat) (a : List Fd) : (seqF nx a).length = a.length := by
  induction a generalizing nx with
  | nil => rfl
  | cons g r ih => simp [seqF, ih]
def MayF (fs : List Fd) : Prop := ∀ f ∈ fs, mayB f.k f.l = true
theorem upN_le (a n : Nat) (h : 0 < n) : upN a n ≤ a + n - 1 ∧ a ≤ upN a n := by
  unfold upN
  have h1 := Nat.div_mul_le_self (a + n - 1) n
  have h2 := Nat.lt_div_mul_add h (a := a + n - 1)
  omega
theorem atF_le {nx : Nat} {f : Fd} (h : mayB f.k f.l = true) : atF nx f ≤ nx + 63 ∧ nx ≤ atF nx f := by
  unfold atF
  split
  · omega
  · have := upN_le nx f.n (Fd.n_pos h)
    have := f.n_le
    omega
theorem endF_le {nx : Nat} {fs : List Fd} (h : MayF fs) : endF nx fs ≤ nx + 128 * fs.length := by
  induction fs generalizing nx with
  | nil => simp [endF]
  | cons g r ih =>
    have h1 := atF_le (nx := nx) (h g (List.mem_cons_self ..))
    have h2 := g.n_le
    have h3 := ih (nx := atF nx g + g.n) (fun f hf => h f (List.mem_cons_of_mem _ hf))
    rw [endF, List.length_cons]; omega
theorem MayF.take {fs : List Fd} (h : MayF fs) (k : Nat) : MayF (fs.take k) := fun f hf => h f (List.mem_of_mem_take hf)

/-- a place that is not too far, and a field -/
abbrev PF := { x : Nat × Fd // x.1 ≤ 1000000 }
def encPF (x : PF) : Array Value := #[.int .i64 (x.1.1 : Int), .agg #[.string x.1.2.s, .int .i64 x.1.2.k, .int .i64 x.1.2.l]]
/-- what a round keeps: what lay below a block, and whatever holds a field -/
structure KpF (n₀ : Nat) (W W' : World) : Prop where
  below : Below n₀ W W'
  fld : ∀ (b : Nat) (cs : Array Value) (d : Nat × Nat), W.heap[b]? = some (.cells cs 40 d) → W'.heap[b]? = some (.cells cs 40 d)
theorem KpF.trans {n₀ : Nat} {A B C : World} (h : KpF n₀ A B) (k : KpF n₀ B C) : KpF n₀ A C := ⟨h.below.trans k.below, fun b cs d hb => k.fld b cs d (h.fld b cs d hb)⟩
theorem KpF.of_below {n₀ : Nat} {A B : World} (h : Below A.heap.size A B) (hn : n₀ ≤ A.heap.size) : KpF n₀ A B := ⟨h.mono hn, fun b cs d hb => (h.block b (Array.getElem?_eq_some_iff.1 hb).1).trans hb⟩
theorem KpF.putObj {n₀ : Nat} {w : World} (hn : n₀ ≤ w.heap.size) (W : World) (l : Nat) (o o' : Obj) (hl : w.heap.size ≤ l) (h : W.heap[l]? = some o) (hc : o.isCells = false) (hw : o.isWalk = false) : KpF n₀ W (W.putObj l o') :=
  ⟨belowK_b hn W l o o' hl h hc hw, fun b cs d hb => by
    have hne : b ≠ l := by rintro rfl; rw [h] at hb; cases hb; cases hc
    exact (World.putObj_heap_other (by omega)).trans hb⟩
theorem places_calls (A : Option Addr) (n c : Nat) (w : World) :
    CallsIn Fence.wide 3 Try.prog 36 #[.slice A n c] w fun e w' => e = .returned (.func (.func 51) #[] #[.pointer (some ⟨w.heap.size, 0, none⟩)]) ∧ w' = w.alloc (.cells #[.slice A n c] 22) := by
  rw [callsIn_wide]
  have hmf : ∀ (fn : Fn) (first cap : Array Value) (w : World), (Instr.makeFunc fn first cap).run Try.prog w = .ok (.func fn first cap) w := fun _ _ _ _ => rfl
  go_enter Try.func36, Try.ntmps36
  go_wp2
  go_ret
  exact ⟨rfl, rfl⟩
theorem grown_of_below {w w' : World} (h : Below w.heap.size w w') : w.grownBy w' none := ⟨h.os, h.tape, h.output, h.size, fun k hk _ => h.block k hk⟩
end Go.Proofs.Ytepfabijmhhhcaa
