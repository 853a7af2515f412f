/- Merged out of: Kc Rg Kd Ga. -/
import Derived.Test.YtehcpjodkadfnaaGreatUa
import Derived.Laws.Bits64b
import Derived.Lib.Hide
import Derived.OrdersHeld
import Derived.Deep.RegionHeld
/- Layer 1 of the heap, its words, third part: numbers of bytes. -/
set_option linter.unusedSimpArgs false
set_option linter.unusedVariables false
set_option maxRecDepth 100000
namespace Go.Proofs.YtehcpjodkadfnaaGreat
open Go.RowKit

/-- the number of bytes, the lowest first -/
def numN : List UInt8 → Nat
  | [] => 0
  | b :: r => b.toNat + 256 * numN r
def numL (l : List UInt8) : Int := (numN l : Int)
theorem numN_append (a b : List UInt8) : numN (a ++ b) = numN a + 2 ^ (8 * a.length) * numN b := by
  induction a with
  | nil => simp [numN]
  | cons x a ih =>
    simp only [List.cons_append, numN, ih, List.length_cons, Nat.mul_add (8 : Nat), Nat.pow_add, Nat.mul_add 256]
    rw [Nat.mul_comm (2 ^ (8 * a.length)) (2 ^ (8 * 1)), Nat.mul_assoc, Nat.add_assoc]
theorem numN_lt (l : List UInt8) : numN l < 2 ^ (8 * l.length) := by
  induction l with
  | nil => simp [numN]
  | cons b l ih =>
    have := b.toNat_lt
    simp only [numN, List.length_cons, Nat.mul_add (8 : Nat), Nat.pow_add]
    omega
theorem pow_le64 {k : Nat} (h : k ≤ 8) : 2 ^ (8 * k) ≤ 18446744073709551616 := Nat.le_trans (Nat.pow_le_pow_right (by decide) (show 8 * k ≤ 64 by omega)) (by decide)
theorem numL_bd (l : List UInt8) (h : l.length ≤ 8) : 0 ≤ numL l ∧ numL l < 18446744073709551616 := by
  have := numN_lt l; have := pow_le64 h; unfold numL; omega
theorem numL_snoc (l : List UInt8) (b : UInt8) (k : Nat) (hl : l.length = k) (hk : k < 8) : bits .or .u64 (numL l) (IntKind.u64.wrap (IntKind.u64.wrap (b.toNat : Int) * 2 ^ (8 * k))) = numL (l ++ [b]) := by
  have h1 := numN_lt l
  have h2 := b.toNat_lt
  have h3 := pow_le64 (show k + 1 ≤ 8 by omega)
  rw [hl] at h1
  rw [Nat.mul_add, Nat.pow_add] at h3
  have h4 : b.toNat * 2 ^ (8 * k) ≤ 255 * 2 ^ (8 * k) := Nat.mul_le_mul_right _ (by omega)
  have e : IntKind.u64.wrap (IntKind.u64.wrap (b.toNat : Int) * 2 ^ (8 * k)) = ((2 ^ (8 * k) * b.toNat : Nat) : Int) := by
    rw [IntKind.wrap_u64 (b.toNat : Int), Int.emod_eq_of_lt (by omega) (by omega), IntKind.wrap_u64, Int.emod_eq_of_lt (by exact Int.mul_nonneg (by omega) (Int.pow_nonneg (by decide))) (by
      have : ((b.toNat * 2 ^ (8 * k) : Nat) : Int) < 18446744073709551616 := by omega
      simpa using this)]
    push_cast
    rw [Int.mul_comm]
  rw [e, numL, bits_or_u64_nat _ _ (by omega) (by rw [Nat.mul_comm]; omega), Nat.or_comm, ← Nat.two_pow_add_eq_or_of_lt h1, numL, numN_append, hl]
  simp [numN, Nat.add_comm]

def insB (at_ n width : Int) : Bool := decide (0 ≤ at_ ∧ at_ ≤ n ∧ width ≤ n - at_)

theorem inside_calls (pb pat pw : Nat) (A : Option Addr) (n c : Nat) (at_ width : Int) (w : World) (h1 : w.cell? ⟨pat, 0, none⟩ = some (.int .i64 at_)) (h2 : w.cell? ⟨pb, 0, none⟩ = some (.slice A n c)) (h3 : w.cell? ⟨pw, 0, none⟩ = some (.int .i64 width)) (hn : n ≤ 9223372036854775807) :
    Calls Tryz.prog 79 #[.pointer (some ⟨pat, 0, none⟩), .pointer (some ⟨pb, 0, none⟩), .pointer (some ⟨pw, 0, none⟩)] w fun e w' => e = .returned (.bool (insB at_ n width)) ∧ w = w' := by
  go_enter Tryz.func79, Tryz.ntmps79
  go_wp2
  all_goals
    go_ret
    refine ⟨ret_bool ?_, rfl⟩
    rw [Bool.eq_iff_iff]
    simp [insB]
    try omega

theorem Get_none (A : Option Addr) (n c : Nat) (at_ : Int) (width : Int) (w : World) (hn : n ≤ 9223372036854775807) (h : widthB width = false ∨ insB at_ n width = false) :
    Calls Tryz.prog 59 #[.slice A n c, .int .i64 at_, .int .i64 width] w fun e w' => e = .returned (.tuple #[.int .u64 0, .bool false]) ∧ Below w.heap.size w w' := by
  have hmf : ∀ (fn : Fn) (first cap : Array Value) (w : World), (Instr.makeFunc fn first cap).run Tryz.prog w = .ok (.func fn first cap) w := fun _ _ _ _ => rfl
  by_cases hb : widthB width = true
  · have h' : insB at_ n width = false := h.resolve_left (by rw [hb]; decide)
    clear h
    go_enter Tryz.func59, Tryz.ntmps59
    go_wp2_with (first | (go_at_call 80; refine (right_calls _ _).mono ?_; rintro e w' ⟨rfl, rfl⟩) | (go_at_call 79; refine (inside_calls _ _ _ A n c at_ width _ (by simp [go_sem]) (by simp [go_sem]) (by simp [go_sem]) hn).mono ?_; rintro e w' ⟨rfl, rfl⟩))
    go_ret2
    exact ⟨rfl, (((Below.refl _ _).alloc (Nat.le_refl _) _).alloc (by simp) _).alloc (by simp; omega) _⟩
  · clear h
    rw [Bool.not_eq_true] at hb
    go_enter Tryz.func59, Tryz.ntmps59
    go_wp2_with (first | (go_at_call 80; refine (right_calls _ _).mono ?_; rintro e w' ⟨rfl, rfl⟩))
    go_ret2
    exact ⟨rfl, (((Below.refl _ _).alloc (Nat.le_refl _) _).alloc (by simp) _).alloc (by simp; omega) _⟩

theorem Get_some (A : Option Addr) (c : Nat) (l : List UInt8) (at_ : Nat) (width : Nat) (w : World) (hA : Rd w A (bytesV l)) (hw : width ≤ 8) (hwb : widthB width = true) (h1 : at_ + width ≤ l.length) (hl : l.length ≤ 9223372036854775807) :
    Calls Tryz.prog 59 #[.slice A l.length c, .int .i64 at_, .int .i64 width] w fun e w' => e = .returned (.tuple #[.int .u64 (numL ((l.drop at_).take width)), .bool true]) ∧ Below w.heap.size w w' := by
  have hmf : ∀ (fn : Fn) (first cap : Array Value) (w : World), (Instr.makeFunc fn first cap).run Tryz.prog w = .ok (.func fn first cap) w := fun _ _ _ _ => rfl
  have hin : insB at_ l.length width = true := by simp [insB]; omega
  go_enter Tryz.func59, Tryz.ntmps59
  go_wp2_with (first | (go_at_call 80; refine (right_calls _ _).mono ?_; rintro e w' ⟨rfl, rfl⟩) | (go_at_call 79; refine (inside_calls _ _ _ A l.length c at_ width _ (by simp [go_sem]) (by simp [go_sem]) (by simp [go_sem]) hl).mono ?_; rintro e w' ⟨rfl, rfl⟩))
  obtain ⟨W, hW⟩ : ∃ W : World, W = ((w.alloc (.cells #[.slice A l.length c] 42)).alloc (.cells #[.int .i64 at_] 3)).alloc (.cells #[.int .i64 width] 3) := ⟨_, rfl⟩
  have hBW : Below w.heap.size w W := hW ▸ (((Below.refl _ _).alloc (Nat.le_refl _) _).alloc (by simp) _).alloc (by simp; omega) _
  have hg3 : W.cell? ⟨w.heap.size, 0, none⟩ = some (.slice A l.length c) := by rw [hW]; simp [go_sem]
  have hg4 : W.cell? ⟨w.heap.size + 1, 0, none⟩ = some (.int .i64 at_) := by rw [hW]; simp [go_sem]
  have hAW := hA.below hBW
  rw [← hW]
  clear hA hW
  go_loop [9, 21] (fun n i => ∃ k : Nat, k ≤ width ∧ i = .int .i64 k ∧ n = .int .u64 (numL ((l.drop at_).take k))) (fun _ i => width - (intOf i).toNat)
  case atStart => exact ⟨0, by omega, rfl, by simp [numL, numN]⟩
  case round =>
    obtain ⟨k, hk, rfl, rfl⟩ := hrel
    by_cases hlt : k < width
    · obtain ⟨ad, rfl, hc⟩ := hAW (by intro h; have := congrArg List.length h; simp [bytesV] at this; subst this; simp at h1; omega)
      have hcell := hc (at_ + k) (.int .u8 ((l[at_ + k]'(by omega)).toNat : Int)) (by simp [bytesV, List.getElem?_eq_getElem (show at_ + k < l.length by omega)])
      clear hc
      have hts : (l.drop at_).take (k + 1) = (l.drop at_).take k ++ [l[at_ + k]'(by omega)] := by
        rw [List.take_succ_eq_append_getElem (by simp; omega)]; simp
      have hsn := numL_snoc ((l.drop at_).take k) (l[at_ + k]'(by omega)) k (by simp; omega) (by omega)
      have H := Lib.hid hsn
      have H2 := Lib.hid hts
      clear hsn hts
      go_wp2
      go_round
      case rel => exact ⟨k + 1, by omega, by go_num, by rw [H.out, H2.out]⟩
      case measure => simp [intOf]; omega
    · go_wp2
      go_ret2
      obtain rfl : k = width := by omega
      exact ⟨rfl, hBW⟩

end Go.Proofs.YtehcpjodkadfnaaGreat
/- A region that draws its order of evaluation, where each operation yields one value in every world of a kind, and leaves such a world: it is walked once, in the order of the text. -/
set_option linter.unusedSimpArgs false
set_option linter.unusedVariables false
set_option maxRecDepth 100000
namespace Go.Proofs.YtehcpjodkadfnaaGreat
open Go.RowKit
section
variable {P : Program} {ops : Array Oper} {Q : Exit → Act → World → Prop} {md : Region.Mode} {S : World → Prop}

/-- In every world that meets S this gives v, and a world that meets S. -/
def Gives (P : Program) (S : World → Prop) (m : Sem Next) (v : Value) : Prop :=
  ∀ w, S w → (∃ w1, m.run P w = .ok (.value v) w1 ∧ S w1) ∨ (∃ f args w1, m.run P w = .ok (.enter f args) w1 ∧ Calls P f args w1 fun e w' => e = .returned v ∧ S w')
def YU (P : Program) (ops : Array Oper) (S : World → Prop) (o : Oper) (v : Value) (a : Act) : Prop :=
  (Region.wanted o (yielded ops a.tmps) = true ∧ Gives P S (execOp a.eval o) v) ∨ (Region.wanted o (yielded ops a.tmps) = false ∧ v = undef)
theorem YU.of_same {o : Oper} {v : Value} {a a' : Act} (hy : YU P ops S o v a) (he : execOp a'.eval o = execOp a.eval o)
    (hw : Region.wanted o (yielded ops a'.tmps) = Region.wanted o (yielded ops a.tmps)) : YU P ops S o v a' := by
  unfold YU at *; rw [he, hw]; exact hy
theorem YU.wpOp {i : Nat} {o : Oper} {v : Value} {a : Act} (hi : ops[i]? = some o) (hy : YU P ops S o v a)
    {K : Act → World → Prop} {w : World} (hS : S w) (h : ∀ w', S w' → K (a.put o.dst v) w') : wpOp P ops Q i K a w := by
  unfold Go.wpOp
  simp only [hi]
  rcases hy with ⟨hw, hv⟩ | ⟨hw, rfl⟩
  · simp only [hw, if_true, Oper.wp]
    refine .inl ?_
    rcases hv w hS with ⟨w1, e, h1⟩ | ⟨f, args, w1, e, h1⟩
    · rw [e]; exact h _ h1
    · rw [e]; exact h1.mono fun e w' ⟨he, hs⟩ => by subst he; exact h _ hs
  · simp only [hw, Bool.false_eq_true, if_false]; exact h _ hS
/-- Whatever order is picked from here on: each operation's value is known, whatever the world. -/
def wpAnyU (P : Program) (md : Region.Mode) (ops : Array Oper) (Q : Exit → Act → World → Prop) (S : World → Prop) : Nat → Array Bool → Act → Prop
  | 0, listed, a => Region.ready md ops listed = [] ∧ ∀ w, S w → Q .normal a w
  | fuel + 1, listed, a =>
    (Region.ready md ops listed = [] → ∀ w, S w → Q .normal a w) ∧
    ∀ i ∈ Region.ready md ops listed, ∃ o v, ops[i]? = some o ∧ YU P ops S o v a ∧ wpAnyU P md ops Q S fuel (listed.setIfInBounds i true) (a.put o.dst v)
theorem wpAny_of_U : ∀ (fuel : Nat) (listed : Array Bool) (a : Act) (w : World), S w → wpAnyU P md ops Q S fuel listed a → wpAny P md ops Q fuel listed a w
  | 0, _, _, w, hS, h => ⟨h.1, h.2 w hS⟩
  | fuel + 1, _, _, w, hS, h => ⟨fun hr => h.1 hr w hS, fun i hi => by
      obtain ⟨o, v, ho, hy, hn⟩ := h.2 i hi
      exact hy.wpOp ho hS fun w' hS' => wpAny_of_U fuel _ _ w' hS' hn⟩
theorem wpAnyU_first {i : Nat} {oi : Oper} {v : Value} (hi : ops[i]? = some oi) (hsel : ∀ (j : Nat) (o : Oper) cs b, ops[j]? = some o → o.op ≠ .select cs b) :
    ∀ (fuel : Nat) (listed : Array Bool) (a : Act),
      (∀ j oj, ops[j]? = some oj → j ≠ i → listed.getD j true = false → (∀ e ∈ oj.after, Region.binds md e = true → e.on ≠ i) → oi.apart ops oj = true) →
      i ∈ Region.ready md ops listed → YU P ops S oi v a →
      wpAnyU P md ops Q S fuel (listed.setIfInBounds i true) (a.put oi.dst v) → wpAnyU P md ops Q S (fuel + 1) listed a := by
  intro fuel
  induction fuel with
  | zero =>
    intro listed a _ hr hy H
    refine ⟨fun h => (by rw [h] at hr; cases hr), fun j hj => ?_⟩
    by_cases hji : j = i
    · subst hji; exact ⟨oi, v, hi, hy, H⟩
    · have := ready_mono hj hji
      rw [H.1] at this
      cases this
  | succ fuel ih =>
    intro listed a hfree hr hy H
    refine ⟨fun h => (by rw [h] at hr; cases hr), fun j hj => ?_⟩
    by_cases hji : j = i
    · subst hji; exact ⟨oi, v, hi, hy, H⟩
    · obtain ⟨oj, u, hoj, hyj, hn⟩ := H.2 j (ready_mono hj hji)
      obtain ⟨hjun, oj', hoj', hall⟩ := mem_ready.1 hj
      obtain rfl : oj' = oj := by rw [hoj] at hoj'; exact (Option.some.inj hoj').symm
      have hnot : ∀ e ∈ oj'.after, Region.binds md e = true → e.on ≠ i := fun e he hb heq => by
        have h1 := hall e he hb
        have h0 := (mem_ready.1 hr).1
        rw [heq] at h1
        rcases Nat.lt_or_ge i listed.size with h' | h'
        · simp [h'] at h0 h1; rw [h0] at h1; cases h1
        · simp [Array.getElem?_eq_none h'] at h1
      have hap := hfree j oj' hoj hji hjun hnot
      obtain ⟨h1, h2, h3⟩ := Oper.apart_spec hap
      have hsj := fun cs b => hsel j oj' cs b hoj
      have hsi := fun cs b => hsel i oi cs b hi
      refine ⟨oj', u, hoj, hyj.of_same (execOp_put oj' hsj a oi.dst v h1).symm (wanted_put oj' a oi.dst v h1).symm, ?_⟩
      have hfree' : ∀ k ok, ops[k]? = some ok → k ≠ i → (listed.setIfInBounds j true).getD k true = false →
          (∀ e ∈ ok.after, Region.binds md e = true → e.on ≠ i) → oi.apart ops ok = true := fun k ok hk hki hun hno => by
        refine hfree k ok hk hki ?_ hno
        by_cases hjk : j = k
        · subst hjk; exact hjun
        · rw [getD_set_ne true hjk] at hun; exact hun
      refine ih (listed.setIfInBounds j true) (a.put oj'.dst u) hfree' (ready_mono hr (Ne.symm hji)) (hy.of_same (execOp_put oi hsi a oj'.dst u h3) (wanted_put oi a oj'.dst u h3)) ?_
      rw [Array.setIfInBounds_comm _ _ hji, ← Act.put_comm a v u h2]
      exact hn
def upto (n i : Nat) : Array Bool := (List.replicate i true ++ List.replicate (n - i) false).toArray
/-- May the operations be taken in the text's order? -/
def inOrder (md : Region.Mode) (ops : Array Oper) : Bool :=
  Region.noSelect ops && (List.range ops.size).all fun i => Region.free md ops (upto ops.size i) i && (Region.ready md ops (upto ops.size i)).contains i
/-- What is left of the region, from operation i on. -/
def RW (P : Program) (ops : Array Oper) (Q : Exit → Act → World → Prop) (S : World → Prop) (rest : List Oper) (i : Nat) (a : Act) : Prop :=
  ops.toList.drop i = rest → inOrder .any ops = true → wpAnyU P .any ops Q S (ops.size - i) (upto ops.size i) a
theorem upto_succ (n i : Nat) (h : i < n) : (upto n i).setIfInBounds i true = upto n (i + 1) := by
  apply Array.ext'
  simp only [upto, Array.toList_setIfInBounds, List.toList_toArray]
  obtain ⟨m, hm⟩ : ∃ m, n - i = m + 1 := ⟨n - i - 1, by omega⟩
  rw [hm, show n - (i + 1) = m by omega, List.replicate_succ, List.set_append_right _ _ (by simp)]
  simp [List.replicate_succ', List.append_assoc]
theorem RW.take {o : Oper} {rest : List Oper} {v : Value} {i : Nat} {a : Act} (hy : YU P ops S o v a) (h : RW P ops Q S rest (i + 1) (a.put o.dst v)) : RW P ops Q S (o :: rest) i a := by
  intro hd hc
  have hlt : i < ops.size := by
    rcases Nat.lt_or_ge i ops.size with h | h
    · exact h
    · rw [List.drop_of_length_le (by simpa using h)] at hd; cases hd
  have hi : ops[i]? = some o := by
    have := congrArg List.head? hd
    simpa [List.head?_drop] using this
  have hr : ops.toList.drop (i + 1) = rest := by rw [← List.tail_drop, hd]; rfl
  have h1 := h hr hc
  simp only [inOrder, Bool.and_eq_true, List.all_eq_true, List.mem_range] at hc
  obtain ⟨hs, hall⟩ := hc
  obtain ⟨hf, hrd⟩ := hall i hlt
  rw [show ops.size - i = (ops.size - (i + 1)) + 1 by omega]
  refine wpAnyU_first hi (Region.noSelect_spec hs) _ _ a (Region.free_spec hi hf) (by simpa using hrd) hy ?_
  rw [upto_succ _ _ hlt]
  exact h1
/-- A value, the world as it was. -/
theorem RW.val {o : Oper} {rest : List Oper} {v : Value} {i : Nat} {a : Act} (hw : Region.wanted o (yielded ops a.tmps) = true) (hy : ∀ w, S w → (execOp a.eval o).run P w = .ok (.value v) w)
    (h : RW P ops Q S rest (i + 1) (a.put o.dst v)) : RW P ops Q S (o :: rest) i a := RW.take (.inl ⟨hw, fun w hS => .inl ⟨w, hy w hS, hS⟩⟩) h
/-- It is passed over. -/
theorem RW.off {o : Oper} {rest : List Oper} {i : Nat} {a : Act} (hw : Region.wanted o (yielded ops a.tmps) = false)
    (h : RW P ops Q S rest (i + 1) (a.put o.dst undef)) : RW P ops Q S (o :: rest) i a := RW.take (.inr ⟨hw, rfl⟩) h
/-- A call. -/
theorem RW.call {o : Oper} {rest : List Oper} {v : Value} {f : FuncId} {args : Array Value} {i : Nat} {a : Act} (hw : Region.wanted o (yielded ops a.tmps) = true) (he : ∀ w, S w → (execOp a.eval o).run P w = .ok (.enter f args) w)
    (hc : ∀ w, S w → Calls P f args w fun e w' => e = .returned v ∧ S w') (h : RW P ops Q S rest (i + 1) (a.put o.dst v)) : RW P ops Q S (o :: rest) i a :=
  RW.take (.inl ⟨hw, fun w hS => .inr ⟨f, args, w, he w hS, hc w hS⟩⟩) h
/-- The end. -/
theorem RW.done {i : Nat} {a : Act} (h : ∀ w, S w → Q .normal a w) : RW P ops Q S [] i a := by
  intro hd _
  have hge : ops.size ≤ i := by simpa using List.drop_eq_nil_iff.1 hd
  rw [show ops.size - i = 0 by omega]
  refine ⟨?_, h⟩
  unfold Region.ready
  rw [List.filter_eq_nil_iff]
  intro j hj
  have hj' : j < ops.size := by simpa using hj
  simp only [upto]
  rw [show ops.size - i = 0 by omega]
  simp [List.getElem?_replicate, show j < i by omega, Array.getElem?_eq_getElem hj']
/-- The beginning. -/
theorem RW.start (S : World → Prop) {id : Nat} {l : List Oper} {a : Act} {w : World} (hm : P.follows .mixedOrders = true) (hc : inOrder .any l.toArray = true) (hS : S w.drew)
    (h : RW P l.toArray Q S l 0 a) : (Code.region id l.toArray true).wp P Q a w := by
  refine wp_region_any hm (wpAny_of_U _ _ _ _ hS ?_)
  have := h (by simp) hc
  simpa [upto] using this
end
end Go.Proofs.YtehcpjodkadfnaaGreat
/- Layer 5 of the heap, kinds: which fields may be, how long they are, which values are right. -/
set_option linter.unusedSimpArgs false
set_option linter.unusedVariables false
set_option maxRecDepth 100000
namespace Go.Proofs.YtehcpjodkadfnaaGreat
open Go.RowKit

/-- a field in memory, a value in memory -/
def FBox (w : World) (b : Nat) (s : ByteArray) (k l : Int) : Prop := w.cell? ⟨b, 0, none⟩ = some (.string s) ∧ w.cell? ⟨b, 1, none⟩ = some (.int .i64 k) ∧ w.cell? ⟨b, 2, none⟩ = some (.int .i64 l)
def VBox (w : World) (b : Nat) (k x : Int) (t : ByteArray) : Prop := w.cell? ⟨b, 0, none⟩ = some (.int .i64 k) ∧ w.cell? ⟨b, 1, none⟩ = some (.int .u64 x) ∧ w.cell? ⟨b, 2, none⟩ = some (.string t)
theorem FBox.below {w w1 : World} {b : Nat} {s : ByteArray} {k l : Int} (h : FBox w b s k l) (hb : Below w.heap.size w w1) : FBox w1 b s k l := ⟨cell_below (B := 0) hb h.1, cell_below (B := 0) hb h.2.1, cell_below (B := 0) hb h.2.2⟩
theorem VBox.below {w w1 : World} {b : Nat} {k x : Int} {t : ByteArray} (h : VBox w b k x t) (hb : Below w.heap.size w w1) : VBox w1 b k x t := ⟨cell_below (B := 0) hb h.1, cell_below (B := 0) hb h.2.1, cell_below (B := 0) hb h.2.2⟩
theorem FBox.new (w : World) (s : ByteArray) (k l : Int) : FBox (w.alloc (.cells #[.string s, .int .i64 k, .int .i64 l] 29)) w.heap.size s k l := ⟨cell_new _ _ _ _ _ rfl, cell_new _ _ _ _ _ rfl, cell_new _ _ _ _ _ rfl⟩
theorem VBox.new (w : World) (k x : Int) (t : ByteArray) : VBox (w.alloc (.cells #[.int .i64 k, .int .u64 x, .string t] 33)) w.heap.size k x t := ⟨cell_new _ _ _ _ _ rfl, cell_new _ _ _ _ _ rfl, cell_new _ _ _ _ _ rfl⟩
theorem FBox.alloc {w : World} {b : Nat} {s : ByteArray} {k l : Int} (h : FBox w b s k l) (o : Obj) : FBox (w.alloc o) b s k l := h.below (below_new o)
theorem VBox.alloc {w : World} {b : Nat} {k x : Int} {t : ByteArray} (h : VBox w b k x t) (o : Obj) : VBox (w.alloc o) b k x t := h.below (below_new o)

/-- may a field be -/
def mayB (k l : Int) : Bool := if k = 12 then btw 1 l 64 else decide (0 < sizeZ k) && decide (l = 0)
def longZ (k l : Int) : Int := if mayB k l = true then (if k = 12 then l else sizeZ k) else 0

theorem may_calls (s : ByteArray) (k l : Int) (w : World) : Calls Tryz.prog 61 #[.agg #[.string s, .int .i64 k, .int .i64 l]] w fun e w' => e = .returned (.bool (mayB k l)) ∧ Below w.heap.size w w' := by
  by_cases hk : k = 12
  · subst hk
    go_enter Tryz.func61, Tryz.ntmps61
    go_wp2
    all_goals
      go_ret
      exact ⟨ret_bool (by rw [Bool.eq_iff_iff]; simp [mayB, btw]; try omega), below_new _⟩
  · go_enter Tryz.func61, Tryz.ntmps61
    go_wp2_with (go_at_call 62; refine (Size_calls _ _).mono ?_; rintro e w' ⟨rfl, rfl⟩)
    all_goals
      go_ret
      exact ⟨ret_bool (by rw [Bool.eq_iff_iff]; simp [mayB, hk]; try omega), below_new _⟩

theorem Long_calls (s : ByteArray) (k l : Int) (w : World) : Calls Tryz.prog 33 #[.agg #[.string s, .int .i64 k, .int .i64 l]] w fun e w' => e = .returned (.int .i64 (longZ k l)) ∧ Below w.heap.size w w' := by
  by_cases hm : mayB k l = true
  · have hkk : k = 12 ∨ ¬ k = 12 := by omega
    rcases hkk with rfl | hk
    all_goals
      go_enter Tryz.func33, Tryz.ntmps33
      go_wp2_with (first | (go_at_call 62; refine (Size_calls _ _).mono ?_; rintro e w' ⟨rfl, rfl⟩) | (go_at_call 61; refine (may_calls _ _ _ _).mono ?_; rintro e w1 ⟨rfl, hb⟩; obtain ⟨hc, hf⟩ := bcell hb))
      go_ret
      exact ⟨ret_int (by simp [longZ, *]), below_seq (below_new _) hb⟩
  · rw [Bool.not_eq_true] at hm
    go_enter Tryz.func33, Tryz.ntmps33
    go_wp2_with (first | (go_at_call 61; refine (may_calls _ _ _ _).mono ?_; rintro e w1 ⟨rfl, hb⟩; obtain ⟨hc, hf⟩ := bcell hb))
    go_ret
    exact ⟨ret_int (by simp [longZ, hm]), below_seq (below_new _) hb⟩

theorem Fits_is (n width : Int) (s : Bool) (h0 : 0 ≤ n) (h1 : n < 18446744073709551616) (r : Bool) (h : fitsB n width s = r) (w : World) : Calls Tryz.prog 71 #[.int .u64 n, .int .i64 width, .bool s] w fun e w' => e = .returned (.bool r) ∧ w = w' := h ▸ Fits_calls n width s h0 h1 w
/-- do a value's bits fit -/
def fitB (bits k l : Int) : Bool := if k = 12 then decide (bits = 0) else if k = 9 then decide (bits ≤ 1) else fitsB bits (longZ k l) (btw 5 k 8) || decide (k = 10) || decide (k = 11)

theorem fits_calls (pf pv : Nat) (s : ByteArray) (k l bits : Int) (h0 : 0 ≤ bits) (h1 : bits < 18446744073709551616) (w : World) (c0 : w.cell? ⟨pf, 0, none⟩ = some (.string s)) (c1 : w.cell? ⟨pf, 1, none⟩ = some (.int .i64 k)) (c2 : w.cell? ⟨pf, 2, none⟩ = some (.int .i64 l))
    (d1 : w.cell? ⟨pv, 1, none⟩ = some (.int .u64 bits)) :
    Calls Tryz.prog 70 #[.pointer (some ⟨pf, 0, none⟩), .pointer (some ⟨pv, 0, none⟩)] w fun e w' => e = .returned (.bool (fitB bits k l)) ∧ Below w.heap.size w w' := by
  by_cases hk : k = 12
  · subst hk
    go_enter Tryz.func70, Tryz.ntmps70
    go_wp2
    go_ret
    exact ⟨ret_bool (by rw [Bool.eq_iff_iff]; simp [fitB]), Below.refl _ _⟩
  · by_cases hk9 : k = 9
    · subst hk9
      go_enter Tryz.func70, Tryz.ntmps70
      go_wp2
      go_ret
      exact ⟨ret_bool (by rw [Bool.eq_iff_iff]; simp [fitB]), Below.refl _ _⟩
    · have hk12' : (k == 12) = false := by simpa using hk
      have hk9' : (k == 9) = false := by simpa using hk9
      have f0 := blk_lt_of c0
      have f1 := blk_lt_of d1
      obtain ⟨r, hr⟩ : ∃ r, fitsB bits (longZ k l) (btw 5 k 8) = r := ⟨_, rfl⟩
      obtain ⟨q, hq⟩ : ∃ q, (k == 10) = q := ⟨_, rfl⟩
      have H := Lib.hid hr
      clear hr
      cases r <;> cases q
      all_goals
        go_enter Tryz.func70, Tryz.ntmps70
        go_wp2
        refine RW.start (fun w' => Below w.heap.size w w' ∧ w'.cell? ⟨pf, 0, none⟩ = some (.string s) ∧ w'.cell? ⟨pf, 1, none⟩ = some (.int .i64 k) ∧ w'.cell? ⟨pf, 2, none⟩ = some (.int .i64 l) ∧ w'.cell? ⟨pv, 1, none⟩ = some (.int .u64 bits)) (by kernel_rfl) (by kernel_rfl) ⟨(Below.refl _ _).drew, c0, c1, c2, d1⟩ ?_
        clear c0 c1 c2 d1
        repeat (first
          | (refine' RW.val (by rfl) ?_ ?_; rotate_left; (focus (intro w' hS; obtain ⟨hB, c0, c1, c2, d1⟩ := hS; go_simp; rfl)); simp only [Act.put, List.setIfInBounds_toArray, List.set_cons_zero, List.set_cons_succ])
          | (refine RW.off (by rfl) ?_; simp only [Act.put, List.setIfInBounds_toArray, List.set_cons_zero, List.set_cons_succ])
          | (refine' RW.call (by rfl) ?_ ?_ ?_
             rotate_left 3
             (focus (intro w' hS; obtain ⟨hB, c0, c1, c2, d1⟩ := hS; go_simp; exact ⟨rfl, rfl⟩))
             (focus
               intro w' hS
               obtain ⟨hB, c0, c1, c2, d1⟩ := hS
               first
                 | (refine (Long_calls _ _ _ _).mono ?_; rintro e w1 ⟨rfl, hb⟩; exact ⟨rfl, ⟨(below_seq hB hb), (cell_below (B := 0) hb c0), (cell_below (B := 0) hb c1), (cell_below (B := 0) hb c2), (cell_below (B := 0) hb d1)⟩⟩)
                 | (refine (signed_calls _ _).mono ?_; rintro e w1 ⟨rfl, rfl⟩; exact ⟨rfl, hB, c0, c1, c2, d1⟩)
                 | (refine (Fits_is _ _ _ h0 h1 _ H.out _).mono ?_; rintro e w1 ⟨rfl, rfl⟩; exact ⟨rfl, hB, c0, c1, c2, d1⟩))
             simp only [Act.put, List.setIfInBounds_toArray, List.set_cons_zero, List.set_cons_succ]))
        refine RW.done (fun w' hS => ?_)
        obtain ⟨hB, c0, c1, c2, d1⟩ := hS
        go_wp2
        go_ret
        refine ⟨ret_bool ?_, hB⟩
        rw [fitB, if_neg hk, if_neg hk9, H.out, Bool.eq_iff_iff]
        simp at hq
        simp [hq]
end Go.Proofs.YtehcpjodkadfnaaGreat
/- Layer 6 of the heap, fields, first part: rows of fields in memory; multiples; a field by its name. -/
set_option linter.unusedSimpArgs false
set_option linter.unusedVariables false
set_option maxRecDepth 100000
namespace Go.Proofs.YtehcpjodkadfnaaGreat
open Go.RowKit

/-- a field: its name, its kind, its length -/
structure Fd where
  s : ByteArray
  k : Int
  l : Int
def Fd.v (f : Fd) : Value := .agg #[.string f.s, .int .i64 f.k, .int .i64 f.l]
def cellsF (fs : List Fd) : List Value := fs.flatMap fun f => [.string f.s, .int .i64 f.k, .int .i64 f.l]
theorem cellsF_length (fs : List Fd) : (cellsF fs).length = 3 * fs.length := by
  induction fs with
  | nil => rfl
  | cons f r ih => simp only [cellsF, List.flatMap_cons, List.length_append, List.length_cons, List.length_nil] at *; omega
theorem cellsF_get (fs : List Fd) (i : Nat) (f : Fd) (h : fs[i]? = some f) : (cellsF fs)[i * 3]? = some (.string f.s) ∧ (cellsF fs)[i * 3 + 1]? = some (.int .i64 f.k) ∧ (cellsF fs)[i * 3 + 2]? = some (.int .i64 f.l) := by
  induction fs generalizing i with
  | nil => simp at h
  | cons g r ih =>
    cases i with
    | zero =>
      simp at h
      subst h
      exact ⟨rfl, rfl, rfl⟩
    | succ i =>
      have := ih i (by simpa using h)
      rw [cellsF, List.flatMap_cons]
      refine ⟨?_, ?_, ?_⟩
      · rw [show (i + 1) * 3 = i * 3 + 3 by omega, List.getElem?_append_right (by simp)]; simpa [cellsF] using this.1
      · rw [show (i + 1) * 3 + 1 = i * 3 + 1 + 3 by omega, List.getElem?_append_right (by simp)]; simpa [cellsF] using this.2.1
      · rw [show (i + 1) * 3 + 2 = i * 3 + 2 + 3 by omega, List.getElem?_append_right (by simp)]; simpa [cellsF] using this.2.2
/-- the first multiple of n from a place on -/
def upN (at_ n : Nat) : Nat := (at_ + n - 1) / n * n
theorem up_calls (at_ n : Nat) (hn : 0 < n) (h : at_ + n ≤ 4611686018427387904) (w : World) : Calls Tryz.prog 73 #[.int .i64 at_, .int .i64 n] w fun e w' => e = .returned (.int .i64 (upN at_ n)) ∧ w = w' := by
  have hz : ((n : Int) == 0) = false := by simp; omega
  have hq : (at_ + n - 1) / n * n ≤ at_ + n - 1 := Nat.div_mul_le_self _ _
  have hd : (at_ + n - 1) / n ≤ at_ + n - 1 := Nat.div_le_self _ _
  go_enter Tryz.func73, Tryz.ntmps73
  go_wp2
  go_ret
  refine ⟨ret_int ?_, rfl⟩
  have e : ((at_ : Int) + n - 1) / n * n = ((upN at_ n : Nat) : Int) := by
    unfold upN
    rw [Int.natCast_mul, Int.natCast_ediv, show ((at_ + n - 1 : Nat) : Int) = at_ + n - 1 by omega]
  have hb : upN at_ n ≤ at_ + n - 1 := hq
  show wrap64 _ = _
  rw [e]
  generalize upN at_ n = u at *
  clear e hd hz
  first | (unfold wrap64; omega) | (simp [wrap64]; omega)
/-- the number of the first field of a name -/
def findZ : List Fd → ByteArray → Int
  | [], _ => -1
  | f :: r, nm => if f.s = nm then 0 else if findZ r nm < 0 then -1 else findZ r nm + 1
theorem findZ_ge (fs : List Fd) (nm : ByteArray) : -1 ≤ findZ fs nm ∧ findZ fs nm < fs.length := by
  induction fs with
  | nil => simp [findZ]
  | cons f r ih => simp only [findZ, List.length_cons]; split <;> (try split) <;> omega
theorem findZ_at (fs : List Fd) (nm : ByteArray) (k : Nat) (f : Fd) (hk : fs[k]? = some f) (h : f.s = nm) (hb : ∀ (j : Nat) (g : Fd), j < k → fs[j]? = some g → g.s ≠ nm) : findZ fs nm = k := by
  induction fs generalizing k with
  | nil => simp at hk
  | cons g r ih =>
    cases k with
    | zero =>
      simp at hk
      subst hk
      simp [findZ, h]
    | succ k =>
      have h0 := hb 0 g (by omega) rfl
      have := ih k (by simpa using hk) (fun j g' hj hg => hb (j + 1) g' (by omega) (by simpa using hg))
      rw [findZ, if_neg h0, this, if_neg (by omega)]; omega
theorem findZ_none (fs : List Fd) (nm : ByteArray) (hb : ∀ (j : Nat) (g : Fd), fs[j]? = some g → g.s ≠ nm) : findZ fs nm = -1 := by
  induction fs with
  | nil => rfl
  | cons g r ih =>
    have h0 := hb 0 g rfl
    rw [findZ, if_neg h0, ih (fun j g' hg => hb (j + 1) g' (by simpa using hg)), if_pos (by omega)]
theorem Rd.at {w : World} {A : Option Addr} {cs : List Value} (h : Rd w A cs) {j : Nat} {u : Value} (hj : cs[j]? = some u) : ∃ ad, A = some ad ∧ w.cell? (ad.add j) = some u := by
  obtain ⟨ad, e, hc⟩ := h (by intro hn; subst hn; simp at hj)
  exact ⟨ad, e, hc j u hj⟩
set_option maxHeartbeats 800000 in
theorem rFind_calls (A : Option Addr) (c : Nat) (fs : List Fd) (nm : ByteArray) (w : World) (hA : Rd w A (cellsF fs)) (hl : fs.length ≤ 9223372036854775807) :
    Calls Tryz.prog 16 #[.slice A fs.length c, .string nm] w fun e w' => e = .returned (.int .i64 (findZ fs nm)) ∧ w = w' := by
  obtain ⟨r, hr⟩ : ∃ r, findZ fs nm = r := ⟨_, rfl⟩
  rw [hr]
  go_enter Tryz.func16, Tryz.ntmps16
  go_wp2
  go_loop [5] (fun i => ∃ k : Nat, k ≤ fs.length ∧ i = .int .i64 k ∧ ∀ (j : Nat) (g : Fd), j < k → fs[j]? = some g → g.s ≠ nm) (fun i => fs.length - (intOf i).toNat)
  case atStart => exact ⟨0, by omega, rfl, fun j g h => by omega⟩
  case round =>
    obtain ⟨k, hk, rfl, hb⟩ := hrel
    by_cases hlt : k < fs.length
    · obtain ⟨f, hf⟩ : ∃ f, fs[k]? = some f := ⟨_, List.getElem?_eq_getElem hlt⟩
      obtain ⟨ad, rfl, hcell⟩ := hA.at (cellsF_get fs k f hf).1
      have hz := findZ_at fs nm k f hf
      by_cases he : f.s = nm
      · obtain rfl : (k : Int) = r := (hz he hb).symm.trans hr
        subst he
        have ht : (f.s.toList == f.s.toList) = true := by simp
        clear hb hz hr
        go_wp2
        go_ret
        exact ⟨rfl, rfl⟩
      · have ht : (f.s.toList == nm.toList) = false := by
          simp only [ByteArray.toList_eq, beq_eq_false_iff_ne, ne_eq]
          intro h
          apply he
          have : f.s.data = nm.data := Array.toList_inj.1 h
          cases hfs : f.s; cases nm; simp_all
        have hb' : ∀ (j : Nat) (g : Fd), j < k + 1 → fs[j]? = some g → g.s ≠ nm := fun j g hj hg => by
          rcases (by omega : j < k ∨ j = k) with h | rfl
          · exact hb j g h hg
          · rw [hf] at hg; cases hg; exact he
        clear hb hz hr
        go_wp2
        go_round
        case rel => exact ⟨k + 1, by omega, by go_num, hb'⟩
        case measure => simp [intOf]; omega
    · obtain rfl : k = fs.length := by omega
      have : findZ fs nm = -1 := findZ_none fs nm fun j g hg => hb j g (by have := List.getElem?_eq_some_iff.1 hg; exact this.1) hg
      obtain rfl : -1 = r := this.symm.trans hr
      clear hb
      go_wp2
      go_ret
      exact ⟨rfl, rfl⟩
end Go.Proofs.YtehcpjodkadfnaaGreat
