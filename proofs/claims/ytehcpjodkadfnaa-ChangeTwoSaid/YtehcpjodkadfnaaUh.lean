/- Merged out of: Gi Gj Gk Gl Gm Gn Go Gp Gq. -/
import Derived.Test.YtehcpjodkadfnaaUg
import Derived.Deep.RegionWith
import Derived.IntWalk
import Derived.WalkSpells
import Derived.Laws.CopyOwn
import Derived.Deep.RegionHeld3
import Derived.Deep.AppendLies
import Derived.Lib.AppendStr
/- Layer 6 of the heap, fields, ninth part: where references stand. -/
set_option linter.unusedSimpArgs false
set_option linter.unusedVariables false
set_option maxRecDepth 100000
namespace Go.Proofs.Ytehcpjodkadfnaa
open Go.RowKit
attribute [local go_sem] Oper.semAt_some

/-- where references stand -/
def refsS (xs : List (Nat × Fd)) : List Nat := (xs.filter fun x => decide (x.2.k = 11)).map Prod.fst
def refsL (fs : List Fd) : List Nat := if rightF fs = true then refsS (seqF 0 fs) else []
theorem refsS_snoc (xs : List (Nat × Fd)) (x : Nat × Fd) : refsS (xs ++ [x]) = if x.2.k = 11 then refsS xs ++ [x.1] else refsS xs := by
  unfold refsS
  rw [List.filter_append]
  by_cases h : x.2.k = 11 <;> simp [List.filter_cons, h]
theorem refsS_le (xs : List (Nat × Fd)) : (refsS xs).length ≤ xs.length := by
  unfold refsS; rw [List.length_map]; exact List.length_filter_le _ _
theorem appendedR {W w1 : World} {n₀ B1 base : Nat} {v v' : Value} {k m : Nat} {xs ys : List Value} {tmp : Obj}
    (hv : Boxed W B1 28 v) (hrow : W.ownsRow base 3 1 v k xs) (hn : n₀ ≤ B1) (h1b : B1 < base) (hbase : base ≤ W.heap.size)
    (hown' : w1.ownsRow base 3 1 v' m ys) (hgrow : (W.alloc tmp).grownBy w1 v.ownBlock) :
    Boxed w1 B1 28 v ∧ Boxed (w1.setCell ⟨B1, 0, none⟩ v') B1 28 v' ∧ (w1.setCell ⟨B1, 0, none⟩ v').ownsRow base 3 1 v' m ys ∧ KeepsOthers W (w1.setCell ⟨B1, 0, none⟩ v') ∧ KpF n₀ W (w1.setCell ⟨B1, 0, none⟩ v') := by
  have hne : ∀ {B : Nat}, B < base → some B ≠ v.ownBlock := fun hB e => by have := own_base hrow _ e.symm; omega
  have hne' : ∀ {B : Nat}, B < base → some B ≠ v'.ownBlock := fun hB e => by have := own_base hown' _ e.symm; omega
  have hv1 : Boxed w1 B1 28 v := (hv.alloc tmp).kept hgrow (hne h1b)
  have hko : KeepsOthers W w1 := (KeepsOthers.alloc W tmp).trans (KeepsOthers.of_grownBy hgrow fun j o ej hj => by
    rcases (hrow.alloc tmp).2 with ⟨rfl, _⟩ | ⟨g, cap, cur, rfl, _, hgb, _⟩
    · simp [Value.ownBlock] at ej
    · obtain rfl : g = j := by simpa [Value.ownBlock] using ej
      rw [hgb] at hj; cases hj; rfl)
  have hkf : KpF n₀ W w1 := ⟨((Below.refl n₀ W).alloc (by omega) tmp).grown hgrow (by simp; omega) (fun j ej => by have := own_base hrow j ej; omega), fun b cs d hb => by
    have hlt := (Array.getElem?_eq_some_iff.1 hb).1
    refine (hgrow.block b (by simp; omega) fun e => ?_).trans ((Below.heap_alloc _ _ _ hlt).trans hb)
    rcases hrow.2 with ⟨rfl, _⟩ | ⟨g, cap, cur, rfl, _, hgb, _⟩
    · simp [Value.ownBlock] at e
    · obtain rfl : b = g := by simpa [Value.ownBlock] using e
      rw [hgb] at hb; cases hb⟩
  exact ⟨hv1, hv1.set v', hown'.kept (grownBy_setCell' w1 B1 v') (.inr (hne' h1b).symm), hko.trans (KeepsOthers.setCell _ _ _), hkf.trans (KpF.setCell hv1 hn (by decide) _)⟩
end Go.Proofs.Ytehcpjodkadfnaa
/- Layer 6 of the heap, fields, tenth part: new objects; where a field stands. -/
set_option linter.unusedSimpArgs false
set_option linter.unusedVariables false
set_option maxRecDepth 100000
namespace Go.Proofs.Ytehcpjodkadfnaa
open Go.RowKit

theorem sizeF_le (fs : List Fd) : sizeF fs ≤ 4096 := by
  unfold sizeF
  split
  · rename_i h
    obtain ⟨hm, hl⟩ := rightF_may h
    have := endF_le (nx := 0) hm
    have := upN_le (endF 0 fs) 8 (by omega)
    omega
  · omega
def Fd.z : Fd := ⟨⟨#[]⟩, 0, 0⟩
theorem Rd.int {w : World} {A : Option Addr} {l : List Nat} (h : Rd w A (intsV l)) {k n : Nat} (hk : l[k]? = some n) : ∃ ad, A = some ad ∧ w.cell? (ad.add k) = some (.int .i64 n) := by
  have : (intsV l)[k]? = some (.int .i64 n) := by simp [intsV, hk]
  exact h.at this
theorem intsV_length (l : List Nat) : (intsV l).length = l.length := by simp [intsV]
/-- a block of cells that was laid -/
def OBox (w : World) (b : Nat) (cs : List Value) (T : TypeId) : Prop := w.heap[b]? = some (.cells cs.toArray T (0, 0))
theorem OBox.new (w : World) (cs : List Value) (T : TypeId) : OBox (w.alloc (.cells cs.toArray T)) w.heap.size cs T := World.alloc_heap_new w _
theorem OBox.lt {w : World} {b : Nat} {cs : List Value} {T : TypeId} (h : OBox w b cs T) : b < w.heap.size := (Array.getElem?_eq_some_iff.1 h).1
theorem OBox.below {w w1 : World} {b : Nat} {cs : List Value} {T : TypeId} (h : OBox w b cs T) (hb : Below w.heap.size w w1) : OBox w1 b cs T := (hb.block b h.lt).trans h
theorem OBox.cell {w : World} {b : Nat} {cs : List Value} {T : TypeId} (h : OBox w b cs T) {j : Nat} {v : Value} (hj : cs[j]? = some v) : w.cell? ⟨b, j, none⟩ = some v := by
  simp [World.cell?, show w.heap[b]? = _ from h, hj]
theorem OBox.frz {w : World} {b : Nat} {cs : List Value} {T : TypeId} (h : OBox w b cs T) (j : Nat) : w.frozen? ⟨b, j, none⟩ = false := by
  simp [World.frozen?, show w.heap[b]? = _ from h]
theorem OBox.f3 {w : World} {b : Nat} {x y z : Value} {T : TypeId} (h : OBox w b [x, y, z] T) : w.cell? ⟨b, 0, none⟩ = some x ∧ w.cell? ⟨b, 1, none⟩ = some y ∧ w.cell? ⟨b, 2, none⟩ = some z ∧ w.frozen? ⟨b, 0, none⟩ = false ∧ w.frozen? ⟨b, 1, none⟩ = false ∧ w.frozen? ⟨b, 2, none⟩ = false :=
  ⟨h.cell rfl, h.cell rfl, h.cell rfl, h.frz 0, h.frz 1, h.frz 2⟩
theorem OBox.f1 {w : World} {b : Nat} {x : Value} {T : TypeId} (h : OBox w b [x] T) : w.cell? ⟨b, 0, none⟩ = some x ∧ w.frozen? ⟨b, 0, none⟩ = false := ⟨h.cell rfl, h.frz 0⟩
end Go.Proofs.Ytehcpjodkadfnaa
/- Layer 6 of the heap, fields, eleventh part: a field of an object is got. -/
set_option linter.unusedSimpArgs false
set_option linter.unusedVariables false
set_option maxRecDepth 100000
namespace Go.Proofs.Ytehcpjodkadfnaa
open Go.RowKit

/-- where the field of a name stands in an object of some bytes, and which it is; or what is amiss -/
def locF (fs : List Fd) (len : Nat) (nm : ByteArray) : Int ⊕ (Nat × Fd) :=
  if rightF fs && decide (len = sizeF fs) then (if findZ fs nm < 0 then .inl 61 else .inr ((layL fs).getD (findZ fs nm).toNat 0, fs.getD (findZ fs nm).toNat Fd.z)) else .inl 60
theorem layL_length {fs : List Fd} (h : rightF fs = true) : (layL fs).length = fs.length := by rw [layL, if_pos h, List.length_map, seqF_length]
theorem loc_bad {fs : List Fd} {len : Nat} {nm : ByteArray} {q : Int} (h : locF fs len nm = .inl q) : (q = 60 ∧ (rightF fs = false ∨ ¬ len = sizeF fs)) ∨ (q = 61 ∧ rightF fs = true ∧ len = sizeF fs ∧ findZ fs nm < 0) := by
  unfold locF at h
  split at h
  · rename_i hr
    simp only [Bool.and_eq_true, decide_eq_true_eq] at hr
    split at h
    · cases h; exact .inr ⟨rfl, hr.1, hr.2, by assumption⟩
    · cases h
  · rename_i hr
    cases h
    refine .inl ⟨rfl, ?_⟩
    cases h2 : rightF fs
    · exact .inl rfl
    · exact .inr fun e => hr (by rw [h2, decide_eq_true e]; rfl)
theorem loc_ok {fs : List Fd} {len : Nat} {nm : ByteArray} {at_ : Nat} {f : Fd} (h : locF fs len nm = .inr (at_, f)) : rightF fs = true ∧ len = sizeF fs ∧ ∃ k : Nat, findZ fs nm = k ∧ fs[k]? = some f ∧ (layL fs)[k]? = some at_ := by
  unfold locF at h
  split at h
  · rename_i hr
    simp only [Bool.and_eq_true, decide_eq_true_eq] at hr
    split at h
    · cases h
    · rename_i hk
      have hb := findZ_ge fs nm
      have h1 : (findZ fs nm).toNat < fs.length := by omega
      have h2 : (findZ fs nm).toNat < (layL fs).length := by rw [layL_length hr.1]; exact h1
      cases h
      refine ⟨hr.1, hr.2, (findZ fs nm).toNat, by omega, ?_, ?_⟩
      · rw [List.getD_eq_getElem?_getD, List.getElem?_eq_getElem h1]; rfl
      · rw [List.getD_eq_getElem?_getD, List.getElem?_eq_getElem h2]; rfl
  · cases h
theorem endF_append (nx : Nat) (a b : List Fd) : endF nx (a ++ b) = endF (endF nx a) b := by
  induction a generalizing nx with
  | nil => rfl
  | cons g r ih => exact ih _
theorem endF_ge {nx : Nat} {fs : List Fd} (h : MayF fs) : nx ≤ endF nx fs := by
  induction fs generalizing nx with
  | nil => simp [endF]
  | cons g r ih =>
    have h1 := atF_le (nx := nx) (h g (List.mem_cons_self ..))
    have h3 := ih (nx := atF nx g + g.n) (fun f hf => h f (List.mem_cons_of_mem _ hf))
    rw [endF]; omega
theorem seqF_get {fs : List Fd} {k : Nat} {f : Fd} (nx : Nat) (hf : fs[k]? = some f) : (seqF nx fs)[k]? = some (atF (endF nx (fs.take k)) f, f) := by
  induction fs generalizing nx k with
  | nil => simp at hf
  | cons g r ih =>
    cases k with
    | zero => simp at hf; subst hf; rfl
    | succ k =>
      have := ih (atF nx g + g.n) (k := k) (by simpa using hf)
      simpa [seqF, endF] using this
theorem lay_end {fs : List Fd} (hm : MayF fs) {k : Nat} {f : Fd} (hf : fs[k]? = some f) : atF (endF 0 (fs.take k)) f + f.n ≤ endF 0 fs := by
  obtain ⟨_, e2⟩ := seqF_take hf
  rw [← e2]
  have e : fs = fs.take (k + 1) ++ fs.drop (k + 1) := (List.take_append_drop _ _).symm
  conv => rhs; rw [e, endF_append]
  exact endF_ge fun g hg => hm g (List.mem_of_mem_drop hg)
theorem loc_in {fs : List Fd} {len : Nat} {nm : ByteArray} {at_ : Nat} {f : Fd} (h : locF fs len nm = .inr (at_, f)) : mayB f.k f.l = true ∧ at_ + f.n ≤ len ∧ len ≤ 4096 ∧ 0 < f.n := by
  obtain ⟨hr, hl, k, hk, hf, hat⟩ := loc_ok h
  obtain ⟨hm, _⟩ := rightF_may hr
  have hmf := hm f (List.mem_of_getElem? hf)
  refine ⟨hmf, ?_, by have := sizeF_le fs; omega, Fd.n_pos hmf⟩
  rw [layL, if_pos hr, List.getElem?_map, seqF_get 0 hf] at hat
  simp at hat
  have h1 := lay_end hm hf
  have h2 := upN_le (endF 0 fs) 8 (by omega)
  rw [hl, sizeF, if_pos hr]
  omega
/-- a value, as its three parts -/
structure Vl where
  k : Int
  b : Int
  t : ByteArray
def Vl.v (x : Vl) : Value := .agg #[.int .i64 x.k, .int .u64 x.b, .string x.t]
def Vl.z : Vl := ⟨0, 0, ⟨#[]⟩⟩
/-- the value that bytes are -/
def decF (l : List UInt8) (f : Fd) : Vl := if decB l f.k f.l = true then ⟨f.k, decZ l f.k f.l, decT l f.k⟩ else Vl.z
theorem decF_v (l : List UInt8) (f : Fd) : decV l f.k f.l = (decF l f).v := by
  unfold decF
  cases h : decB l f.k f.l
  · rw [(decV_no h).1]; rfl
  · rw [(decV_ok h).1]; rfl
/-- what is got -/
def getV (b : List UInt8) (fs : List Fd) (nm : ByteArray) : Vl := match locF fs b.length nm with
  | .inl _ => Vl.z
  | .inr (at_, f) => decF ((b.drop at_).take f.n) f
def getE (b : List UInt8) (fs : List Fd) (nm : ByteArray) : Int := match locF fs b.length nm with
  | .inl q => q
  | .inr (at_, f) => decE ((b.drop at_).take f.n) f.k f.l
/-- a part of what is read -/
theorem Rd.slice {w : World} {ad : Addr} {l : List UInt8} (h : Rd w (some ad) (bytesV l)) (i n : Nat) : Rd w (some (ad.add i)) (bytesV ((l.drop i).take n)) := fun hne => by
  obtain ⟨ad', e, hc⟩ := h (by rintro e; simp [bytesV] at e; subst e; simp [bytesV] at hne)
  cases e
  refine ⟨_, rfl, fun j u hj => ?_⟩
  rw [Addr.add_add]
  apply hc
  simp only [bytesV, List.getElem?_map, List.getElem?_take, List.getElem?_drop] at hj ⊢
  split at hj
  · exact hj
  · simp at hj
theorem Rd.some_of {w : World} {A : Option Addr} {cs : List Value} (h : Rd w A cs) (hne : cs ≠ []) : ∃ ad, A = some ad := by
  obtain ⟨ad, e, _⟩ := h hne; exact ⟨ad, e⟩
end Go.Proofs.Ytehcpjodkadfnaa
/- Layer 6 of the heap, fields, twelfth part: a field of an object is set. -/
set_option linter.unusedSimpArgs false
set_option linter.unusedVariables false
set_option maxRecDepth 100000
namespace Go.Proofs.Ytehcpjodkadfnaa
open Go.RowKit

theorem encL_length {bits : Int} {tx : ByteArray} {f : Fd} {vk : Int} (h : rightB vk bits tx f.k f.l = true) : (encL bits tx f.k f.l).length = f.n := by
  obtain ⟨hm, _, ht, _⟩ := right_may h
  unfold encL Fd.n
  split
  · rename_i hk
    rw [if_pos hk] at ht
    rw [hk] at hm ⊢
    rw [long_12 hm, bl_length]; omega
  · rw [leL_length]
/-- bytes over bytes, from a place on -/
def overB (b : List UInt8) (i : Nat) (x : List UInt8) : List UInt8 := b.take i ++ x ++ b.drop (i + x.length)
theorem overB_length {b : List UInt8} {i : Nat} {x : List UInt8} (h : i + x.length ≤ b.length) : (overB b i x).length = b.length := by simp [overB]; omega
/-- the bytes of an object of which a field was set -/
def setB (b : List UInt8) (fs : List Fd) (nm : ByteArray) (v : Vl) : List UInt8 := match locF fs b.length nm with
  | .inl _ => []
  | .inr (at_, f) => if rightB v.k v.b v.t f.k f.l = true then overB b at_ (encL v.b v.t f.k f.l) else []
def setE (b : List UInt8) (fs : List Fd) (nm : ByteArray) (v : Vl) : Int := match locF fs b.length nm with
  | .inl q => q
  | .inr (_, f) => if rightB v.k v.b v.t f.k f.l = true then 0 else 50
theorem bytesV_take (l : List UInt8) (n : Nat) : (bytesV l).take n = bytesV (l.take n) := by simp [bytesV]
theorem bytesV_drop (l : List UInt8) (n : Nat) : (bytesV l).drop n = bytesV (l.drop n) := by simp [bytesV]
theorem splice_take {cur : List Value} {b x : List UInt8} {i : Nat} (hc : cur.take b.length = bytesV b) (h : i + x.length ≤ b.length) : (splice cur i (bytesV x)).take b.length = bytesV (overB b i x) := by
  have hlen : b.length ≤ cur.length := by
    have := congrArg List.length hc
    rw [List.length_take, bytesV_length] at this; omega
  have h1 : cur.take i = bytesV (b.take i) := by rw [← bytesV_take, ← hc, List.take_take, Nat.min_eq_left (by omega)]
  have h2 : (cur.drop (i + x.length)).take (b.length - (i + x.length)) = bytesV (b.drop (i + x.length)) := by
    rw [← bytesV_drop, ← hc, List.drop_take]
  rw [splice, bytesV_length, h1, overB, bytesV_append, bytesV_append, List.append_assoc]
  rw [List.take_append, List.take_append, bytesV_length, bytesV_length, List.take_of_length_le (by rw [bytesV_length, List.length_take]; omega), List.take_of_length_le (l := bytesV x) (by rw [bytesV_length, List.length_take]; omega)]
  congr 2
  rw [← h2]
  congr 1
  rw [List.length_take]; omega
theorem sz5 : (Try.prog.info? 5).map (·.size) = some 1 := by kernel_rfl
theorem own_some {w : World} {base : Nat} {e : TypeId} {n : Nat} {v : Value} {xs : List Value} (h : w.ownsRow base e 1 v n xs) (hn : 0 < n) : ∃ g cap cur, v = .slice (some ⟨g, 0, none⟩) n cap ∧ base ≤ g ∧ OBox w g cur e ∧ n ≤ cap ∧ cap ≤ maxLen ∧ cur.length = cap ∧ cur.take n = xs := by
  obtain ⟨h1, ⟨_, h0⟩ | ⟨g, cap, cur, rfl, hg, hgb, hnc, hcm, hcs, hct⟩⟩ := h
  · omega
  · exact ⟨g, cap, cur.toList, rfl, hg, hgb, hnc, hcm, by rw [Array.length_toList, hcs]; omega, by simpa using hct⟩
end Go.Proofs.Ytehcpjodkadfnaa
/- Layer 6 of the heap, fields, thirteenth part: fields are written. -/
set_option linter.unusedSimpArgs false
set_option linter.unusedVariables false
set_option maxRecDepth 100000
namespace Go.Proofs.Ytehcpjodkadfnaa
open Go.RowKit

/-- a field, written -/
def rowF (f : Fd) : List UInt8 := UInt8.ofNat f.s.size :: (bl f.s ++ [UInt8.ofNat f.k.toNat, UInt8.ofNat f.l.toNat])
def encFL (fs : List Fd) : List UInt8 := UInt8.ofNat fs.length :: fs.flatMap rowF
theorem rowF_length (f : Fd) : (rowF f).length = f.s.size + 3 := by simp [rowF, bl_length]
theorem flat_length (fs : List Fd) (h : ∀ f ∈ fs, f.s.size ≤ 15) : (fs.flatMap rowF).length ≤ 18 * fs.length := by
  induction fs with
  | nil => simp
  | cons f r ih =>
    have h1 := h f (List.mem_cons_self ..)
    have h2 := ih fun g hg => h g (List.mem_cons_of_mem _ hg)
    rw [List.flatMap_cons, List.length_append, rowF_length, List.length_cons]; omega
theorem name_size {s : ByteArray} (h : nameB s = true) : 1 ≤ s.size ∧ s.size ≤ 15 := by
  simp only [nameB, Bool.and_eq_true, decide_eq_true_eq] at h
  exact h.2
theorem rightF_name {fs : List Fd} (h : rightF fs = true) {f : Fd} (hf : f ∈ fs) : nameB f.s = true := by
  simp only [rightF, Bool.and_eq_true, decide_eq_true_eq] at h
  obtain ⟨i, hi, rfl⟩ := List.getElem_of_mem hf
  have := h.1 i hi
  simp only [okF, Bool.and_eq_true] at this
  exact this.1.1
theorem may_small {k l : Int} (h : mayB k l = true) : 0 ≤ k ∧ k ≤ 12 ∧ 0 ≤ l ∧ l ≤ 64 := by
  by_cases hk : k = 12
  · subst hk
    have := btw_iff.1 (mayB_12 ▸ h)
    omega
  · obtain ⟨h1, h2⟩ := mayB_of h hk
    have := (size_pos k).1 h2
    omega
theorem step_append_str {P : Program} {w : World} {ops : Array Oper} {o : Oper} {a : Act} {K : Act → World → Prop} {Q : Exit → Act → World → Prop} {E : Prop} (hgd : o.guard = none) (sl x : Operand) (t u : TypeId)
    (ho : o.op = .call { callee := .builtin .append, args := #[sl, x], argTypes := #[t, u] })
    (base : Nat) (e : TypeId) (i : TypeInfo) (ht : P.underlying t = some (.slice e)) (hu : P.underlying u = some .string) (hi : P.info? e = some i) (hz : i.zero = some (.int .u8 0))
    (hsize : i.size = 1) (hby : i.bytes = 1)
    (v : Value) (n : Nat) (xs : List Value) (hs : a.eval sl = v) (hown : w.ownsRow base e 1 v n xs) (s : ByteArray) (hx : a.eval x = .string s)
    (h63 : n + s.size ≤ maxLen) (hbytes : n + s.size ≤ 140737488355328) (hbase : base ≤ w.heap.size)
    (h : ∀ v' w', w'.ownsRow base e 1 v' (n + s.size) (xs ++ Lib.strCells s) → w.grownBy w' v.ownBlock → K (a.put o.dst v') w') :
    if Region.wanted o (yielded ops a.tmps) = true then Oper.wp P o a w K Q else E := by
  have hw : Region.wanted o (yielded ops a.tmps) = true := by simp [Region.wanted, hgd]
  rw [if_pos hw]
  obtain ⟨v', w', hr, h2, h3, h4⟩ := Lib.run_append_own_string (P := P) w base t u o.type e i ht hu hi hz hsize hby v n xs hown s h63 hbytes hbase
  unfold Oper.wp execOp
  simp only [ho, resolve, invoke, builtin, Sem.run_bind, Sem.run_pure, Result.andThen_ok, List.map_toArray, List.map_cons, List.map_nil, hs, hx, hr]
  exact h v' w' h2 h3
/-- what was written when some fields are -/
def partF (fs : List Fd) (k : Nat) : List UInt8 := UInt8.ofNat fs.length :: (fs.take k).flatMap rowF
theorem partF_succ {fs : List Fd} {k : Nat} {f : Fd} (hf : fs[k]? = some f) : partF fs (k + 1) = partF fs k ++ rowF f := by
  unfold partF
  rw [List.take_add_one, hf]
  simp
theorem OwnB_len {w : World} {base n : Nat} {v : Value} {l : List UInt8} (h : w.ownsRow base 5 1 v n (bytesV l)) : n = l.length := by
  have := h.1; rw [bytesV_length] at this; omega
theorem own_lt {w : World} {base : Nat} {e : TypeId} {size n : Nat} {v : Value} {xs : List Value} (h : w.ownsRow base e size v n xs) (k : Nat) (hk : v.ownBlock = some k) : k < w.heap.size := by
  rcases h.2 with ⟨rfl, _⟩ | ⟨g, cap, cur, rfl, hb, hg, _⟩
  · simp [Value.ownBlock] at hk
  · have : g = k := by simpa [Value.ownBlock] using hk
    subst this
    exact (Array.getElem?_eq_some_iff.1 hg).1
theorem own_eq {w : World} {base : Nat} {e : TypeId} {size n m : Nat} {v : Value} {xs ys : List Value} (h : w.ownsRow base e size v n xs) (hn : n = m) (hx : xs = ys) : w.ownsRow base e size v m ys := by subst hn hx; exact h
theorem ne_of_at {b g n : Nat} {o : Option Nat} (h : some b ≠ o) (hat : o = some g ∨ g = n + 1) (hb : b < n) : some b ≠ some g := fun e => by
  cases e
  rcases hat with h1 | h1
  · exact h h1.symm
  · omega
theorem news2 (w : World) (u v : Value) (T : TypeId) : ∀ j x, [u, v][j]? = some x → (w.alloc (.cells #[u, v] T)).cell? ((⟨w.heap.size, 0, none⟩ : Addr).add j) = some x := by
  intro j x hj
  match j with
  | 0 => simp at hj; subst hj; exact cell_new w _ T 0 u rfl
  | 1 => simp at hj; subst hj; exact cell_new w _ T 1 v rfl
  | j + 2 => simp at hj
/-- what is written, and what is amiss -/
def wrL (fs : List Fd) : List UInt8 := if rightF fs = true then encFL fs else []
def wrE (fs : List Fd) : Int := if rightF fs = true then 0 else 60
end Go.Proofs.Ytehcpjodkadfnaa
/- Layer 6 of the heap, fields, fourteenth part: bytes that are fields, read; in plain lists. -/
set_option linter.unusedSimpArgs false
set_option linter.unusedVariables false
set_option maxRecDepth 100000
namespace Go.Proofs.Ytehcpjodkadfnaa
open Go.RowKit

/-- a field that bytes can hold -/
def wfF (f : Fd) : Prop := f.s.size < 256 ∧ 0 ≤ f.k ∧ f.k < 256 ∧ 0 ≤ f.l ∧ f.l < 256
/-- one field, and what is left -/
def stepF : List UInt8 → Option (Fd × List UInt8)
  | [] => none
  | n :: q => if n.toNat + 2 ≤ q.length then some (⟨strL (q.take n.toNat), (q.getD n.toNat 0).toNat, (q.getD (n.toNat + 1) 0).toNat⟩, q.drop (n.toNat + 2)) else none
/-- so many fields, and what is left -/
def rdF : List UInt8 → Nat → Option (List Fd × List UInt8)
  | r, 0 => some ([], r)
  | r, k + 1 => match stepF r with
    | none => none
    | some (f, r') => (rdF r' k).map fun x => (f :: x.1, x.2)
theorem u8_nat {n : Nat} (h : n < 256) : (UInt8.ofNat n).toNat = n := by simp; omega
theorem u8_of (x : UInt8) : UInt8.ofNat x.toNat = x := by simp
theorem step_row {f : Fd} (h : wfF f) (r : List UInt8) : stepF (rowF f ++ r) = some (f, r) := by
  obtain ⟨h1, h2, h3, h4, h5⟩ := h
  have e : rowF f ++ r = UInt8.ofNat f.s.size :: (bl f.s ++ ([UInt8.ofNat f.k.toNat, UInt8.ofNat f.l.toNat] ++ r)) := by simp [rowF]
  have hbl := bl_length f.s
  rw [e, stepF, u8_nat h1]
  rw [if_pos (by simp [hbl])]
  have t1 : (bl f.s ++ ([UInt8.ofNat f.k.toNat, UInt8.ofNat f.l.toNat] ++ r)).take f.s.size = bl f.s := by rw [← hbl]; exact List.take_left
  have t2 : (bl f.s ++ ([UInt8.ofNat f.k.toNat, UInt8.ofNat f.l.toNat] ++ r)).drop (f.s.size + 2) = r := by
    rw [List.drop_append, hbl, List.drop_of_length_le (by omega)]
    rw [show f.s.size + 2 - f.s.size = 2 by omega]
    rfl
  have t3 : (bl f.s ++ ([UInt8.ofNat f.k.toNat, UInt8.ofNat f.l.toNat] ++ r)).getD f.s.size 0 = UInt8.ofNat f.k.toNat := by
    rw [List.getD_eq_getElem?_getD, List.getElem?_append_right (by omega), hbl]; simp
  have t4 : (bl f.s ++ ([UInt8.ofNat f.k.toNat, UInt8.ofNat f.l.toNat] ++ r)).getD (f.s.size + 1) 0 = UInt8.ofNat f.l.toNat := by
    rw [List.getD_eq_getElem?_getD, List.getElem?_append_right (by omega), hbl]; simp
  rw [t1, t2, t3, t4, strL_bl, u8_nat (by omega), u8_nat (by omega)]
  have e1 : ((f.k.toNat : Nat) : Int) = f.k := by omega
  have e2 : ((f.l.toNat : Nat) : Int) = f.l := by omega
  rw [e1, e2]
theorem row_step {r r' : List UInt8} {f : Fd} (h : stepF r = some (f, r')) : r = rowF f ++ r' ∧ wfF f := by
  cases r with
  | nil => simp [stepF] at h
  | cons n q =>
    rw [stepF] at h
    split at h
    · rename_i hn
      cases h
      have hn1 := n.toNat_lt
      have hsz : (strL (q.take n.toNat)).size = n.toNat := by rw [strL_size, List.length_take]; omega
      have hb1 := (q.getD n.toNat 0).toNat_lt
      have hb2 := (q.getD (n.toNat + 1) 0).toNat_lt
      refine ⟨?_, ?_⟩
      · simp only [rowF]
        rw [hsz, bl_strL, u8_of, Int.toNat_natCast, Int.toNat_natCast, u8_of, u8_of]
        have e : q = q.take n.toNat ++ (q.getD n.toNat 0 :: q.getD (n.toNat + 1) 0 :: q.drop (n.toNat + 2)) := by
          conv => lhs; rw [← List.take_append_drop n.toNat q]
          congr 1
          have l1 : n.toNat < q.length := by omega
          have l2 : n.toNat + 1 < q.length := by omega
          rw [List.getD_eq_getElem?_getD, List.getD_eq_getElem?_getD, List.getElem?_eq_getElem l1, List.getElem?_eq_getElem l2, List.drop_eq_getElem_cons l1, List.drop_eq_getElem_cons l2]
          rfl
        conv => lhs; rw [e]
        simp
      · refine ⟨by rw [hsz]; omega, ?_, ?_, ?_, ?_⟩ <;> dsimp only <;> omega
    · cases h
theorem rdF_flat {l : List Fd} (h : ∀ f ∈ l, wfF f) (r : List UInt8) {k : Nat} (hk : k ≤ l.length) : rdF (l.flatMap rowF ++ r) k = some (l.take k, (l.drop k).flatMap rowF ++ r) := by
  induction k generalizing l with
  | zero => simp [rdF]
  | succ k ih =>
    cases l with
    | nil => simp at hk
    | cons f t =>
      rw [List.flatMap_cons, List.append_assoc, rdF, step_row (h f (List.mem_cons_self ..))]
      simp only []
      rw [ih (fun g hg => h g (List.mem_cons_of_mem _ hg)) (by simpa using hk)]
      simp
theorem flat_rdF {r r' : List UInt8} {k : Nat} {l : List Fd} (h : rdF r k = some (l, r')) : r = l.flatMap rowF ++ r' ∧ l.length = k ∧ ∀ f ∈ l, wfF f := by
  induction k generalizing r l with
  | zero =>
    simp [rdF] at h
    obtain ⟨rfl, rfl⟩ := h
    simp
  | succ k ih =>
    rw [rdF] at h
    split at h
    · cases h
    · rename_i f q hq
      obtain ⟨rfl, hf⟩ := row_step hq
      cases hr : rdF q k with
      | none => rw [hr] at h; simp at h
      | some x =>
        obtain ⟨t, q'⟩ := x
        rw [hr] at h
        simp at h
        obtain ⟨rfl, rfl⟩ := h
        obtain ⟨rfl, h2, h3⟩ := ih hr
        refine ⟨by simp, by simp [h2], fun g hg => ?_⟩
        rcases List.mem_cons.1 hg with rfl | hg
        · exact hf
        · exact h3 g hg
/-- the fields that bytes are, if they are any -/
def decL : List UInt8 → Option (List Fd)
  | [] => none
  | c :: q => match rdF q c.toNat with
    | some (l, []) => if rightF l = true then some l else none
    | _ => none
theorem rightF_wf {l : List Fd} (h : rightF l = true) : ∀ f ∈ l, wfF f := fun f hf => by
  obtain ⟨h1, h2⟩ := name_size (rightF_name h hf)
  obtain ⟨h3, h4, h5, h6⟩ := may_small ((rightF_may h).1 f hf)
  unfold wfF; omega
theorem decL_iff (b : List UInt8) (l : List Fd) : decL b = some l ↔ rightF l = true ∧ encFL l = b := by
  constructor
  · intro h
    cases b with
    | nil => cases h
    | cons c q =>
      rw [decL] at h
      split at h
      · rename_i l' hl
        split at h
        · rename_i hr
          cases h
          obtain ⟨h1, h2, h3⟩ := flat_rdF hl
          refine ⟨hr, ?_⟩
          rw [encFL, h2, u8_of, h1, List.append_nil]
        · cases h
      · cases h
  · rintro ⟨hr, rfl⟩
    have h16 := (rightF_may hr).2
    have := rdF_flat (rightF_wf hr) [] (Nat.le_refl l.length)
    rw [List.append_nil, List.take_length, List.drop_length] at this
    rw [encFL, decL, u8_nat (by omega), this]
    simp [hr]
theorem decL_enc {l : List Fd} (h : rightF l = true) : decL (encFL l) = some l := (decL_iff _ _).2 ⟨h, rfl⟩
/-- what was read so far is what is there, if anything is -/
theorem decL_part {c : UInt8} {l0 l : List Fd} {r : List UInt8} (hw : ∀ f ∈ l0, wfF f) (hl : l0.length ≤ c.toNat) (h : decL (c :: (l0.flatMap rowF ++ r)) = some l) : l.length = c.toNat ∧ l0 = l.take l0.length ∧ r = (l.drop l0.length).flatMap rowF ∧ rightF l = true := by
  obtain ⟨hr, he⟩ := (decL_iff _ _).1 h
  have h16 := (rightF_may hr).2
  rw [encFL] at he
  injection he with he1 he2
  have hc : l.length = c.toNat := by rw [← he1, u8_nat (by omega)]
  have e1 := rdF_flat hw r (Nat.le_refl l0.length)
  rw [List.take_length, List.drop_length] at e1
  have e2 := rdF_flat (rightF_wf hr) [] (k := l0.length) (by omega)
  rw [List.append_nil, he2, e1] at e2
  simp at e2
  exact ⟨hc, e2.1, e2.2, hr⟩
end Go.Proofs.Ytehcpjodkadfnaa
/- Layer 6 of the heap, fields, fifteenth part: fields are read. -/
set_option linter.unusedSimpArgs false
set_option linter.unusedVariables false
set_option maxRecDepth 100000
namespace Go.Proofs.Ytehcpjodkadfnaa
open Go.RowKit

theorem infoFd : (Try.prog.info? 24).map (fun i => (i.zero, i.size, i.bytes)) = some (some (.agg #[.string ⟨#[]⟩, .int .i64 0, .int .i64 0]), 3, 32) := by kernel_rfl
theorem cellsF_append (a b : List Fd) : cellsF (a ++ b) = cellsF a ++ cellsF b := by simp [cellsF]
def ReadF (b : List UInt8) (e : Ending) (w w' : World) : Prop :=
  (∃ l v, decL b = some l ∧ e = .returned (.tuple #[v, .int .i64 0]) ∧ w'.ownsRow w.heap.size 24 3 v l.length (cellsF l)) ∨ (decL b = none ∧ e = .returned (.tuple #[.slice none 0 0, .int .i64 60]))
theorem decL_stop {c : UInt8} {l0 : List Fd} {r : List UInt8} (hw : ∀ f ∈ l0, wfF f) (hl : l0.length < c.toNat) (hs : stepF r = none) : decL (c :: (l0.flatMap rowF ++ r)) = none := by
  cases hd : decL (c :: (l0.flatMap rowF ++ r)) with
  | none => rfl
  | some l =>
    obtain ⟨h1, h2, h3, h4⟩ := decL_part hw (by omega) hd
    cases hdl : l.drop l0.length with
    | nil => have := congrArg List.length hdl; simp at this; omega
    | cons f t =>
      rw [h3, hdl, List.flatMap_cons, step_row (rightF_wf h4 f (List.mem_of_mem_drop (by rw [hdl]; exact List.mem_cons_self ..)))] at hs
      cases hs
theorem decL_end {c : UInt8} {l0 : List Fd} {r : List UInt8} (hw : ∀ f ∈ l0, wfF f) (hl : l0.length = c.toNat) : decL (c :: (l0.flatMap rowF ++ r)) = if r = [] ∧ rightF l0 = true then some l0 else none := by
  have := rdF_flat hw r (Nat.le_refl l0.length)
  rw [List.take_length, List.drop_length, hl] at this
  rw [decL, this]
  cases r with
  | nil => simp
  | cons x r => simp
theorem at_rest {b pre r : List UInt8} (h : b = pre ++ r) {p : Nat} (hp : p + r.length = b.length) (j : Nat) : b[p + j]? = r[j]? := by
  subst h
  have : p = pre.length := by simp at hp; omega
  subst this
  rw [List.getElem?_append_right (by omega)]; congr 1; omega
theorem drop_rest {b pre r : List UInt8} (h : b = pre ++ r) {p : Nat} (hp : p + r.length = b.length) : b.drop p = r := by
  subst h
  have : p = pre.length := by simp at hp; omega
  subst this
  exact List.drop_left
theorem conv_at {w : World} {A : Option Addr} {l : List UInt8} (h : Rd w A (bytesV l)) (n c : Nat) (hn : l.length = n) : (convert 97 9 (.slice A n c)).run Try.prog w = .ok (.string (strL l)) w := by subst hn; exact conv_str h c
theorem news3 (w : World) (u v x : Value) (T : TypeId) : ∀ j y, [u, v, x][j]? = some y → (w.alloc (.cells #[u, v, x] T)).cell? ((⟨w.heap.size, 0, none⟩ : Addr).add j) = some y := by
  intro j y hj
  match j with
  | 0 => simp at hj; subst hj; exact cell_new w _ T 0 u rfl
  | 1 => simp at hj; subst hj; exact cell_new w _ T 1 v rfl
  | 2 => simp at hj; subst hj; exact cell_new w _ T 2 x rfl
  | j + 3 => simp at hj
end Go.Proofs.Ytehcpjodkadfnaa
/- Layer 6 of the heap, fields, sixteenth part: the reference's places. -/
set_option linter.unusedSimpArgs false
set_option linter.unusedVariables false
set_option maxRecDepth 100000
namespace Go.Proofs.Ytehcpjodkadfnaa
open Go.RowKit

theorem upN_mod (a n : Nat) (hn : 0 < n) : upN a n % n = 0 := by unfold upN; exact Nat.mul_mod_left _ _
theorem upN_min {a n x : Nat} (hn : 0 < n) (h1 : a ≤ x) (h2 : x % n = 0) : upN a n ≤ x := by
  unfold upN
  have e : x = x / n * n := by have := Nat.div_add_mod x n; rw [h2, Nat.mul_comm] at this; omega
  have : (a + n - 1) / n < x / n + 1 := by
    rw [Nat.div_lt_iff_lt_mul hn, Nat.add_mul]; omega
  calc (a + n - 1) / n * n ≤ x / n * n := Nat.mul_le_mul_right n (by omega)
    _ = x := e.symm
theorem rFRight_is (A : Option Addr) (c : Nat) (fs : List Fd) (r : Bool) (h : rightF fs = r) (w : World) (hA : Rd w A (cellsF fs)) (hl : fs.length ≤ 9223372036854775807) (hs : ∀ f ∈ fs, f.s.size ≤ 9223372036854775807) :
    Calls Try.prog 17 #[.slice A fs.length c] w fun e w' => e = .returned (.bool r) ∧ Below w.heap.size w w' := h ▸ rFRight_calls A c fs w hA hl hs
end Go.Proofs.Ytehcpjodkadfnaa
/- Layer 6 of the heap, fields, seventeenth part: the reference's fields, got. -/
set_option linter.unusedSimpArgs false
set_option linter.unusedVariables false
set_option maxRecDepth 100000
namespace Go.Proofs.Ytehcpjodkadfnaa
open Go.RowKit

theorem bl_extract (s : ByteArray) (i j : Nat) : bl (s.extract i j) = ((bl s).drop i).take (j - i) := by
  simp [bl, ByteArray.data_extract]
end Go.Proofs.Ytehcpjodkadfnaa
