/- Small laws on memory that the walks share: what is read, what is new, what stays. -/
import Derived.Test.YtepfabijmhhhcaaProg
import Derived.WalkKit
import Derived.KernelRfl
import Derived.Deep.QuietTactic
import Derived.BigQuiet
import Derived.WideLaws
import Derived.Laws.BytesArg
import Derived.Lib.ConvBytes
set_option linter.unusedSimpArgs false
set_option linter.unusedVariables false
namespace Go.Proofs.Ytepfabijmhhhcaa
open Go.RowKit Go.Lib

theorem ret_int {k : IntKind} {a b : Int} (h : a = b) : Ending.returned (.int k a) = .returned (.int k b) := by rw [h]
theorem ret_bool {a b : Bool} (h : a = b) : Ending.returned (.bool a) = .returned (.bool b) := by rw [h]
theorem ret_str {a b : ByteArray} (h : a = b) : Ending.returned (.string a) = .returned (.string b) := by rw [h]

/-- what cells hold, from an address on -/
def Rd (w : World) (A : Option Addr) (cs : List Value) : Prop := cs ≠ [] → ∃ ad, A = some ad ∧ ∀ j u, cs[j]? = some u → w.cell? (ad.add j) = some u
/-- old blocks are as they were -/
theorem cell_below {w w1 : World} {B : Nat} (h : Below w.heap.size w w1) {a : Addr} {v : Value} (hc : w.cell? a = some v) : w1.cell? a = some v := (h.cell (World.block_lt_of_cell? w a hc)).trans hc
theorem blk_lt_of {w : World} {b o : Nat} {v : Value} (h : w.cell? ⟨b, o, none⟩ = some v) : b < w.heap.size := World.block_lt_of_cell? w ⟨b, o, none⟩ h
theorem Rd.below {w w1 : World} {A : Option Addr} {cs : List Value} (h : Rd w A cs) (hb : Below w.heap.size w w1) : Rd w1 A cs := fun hn => by
  obtain ⟨ad, e, hc⟩ := h hn
  exact ⟨ad, e, fun j u hj => cell_below (B := 0) hb (hc j u hj)⟩
theorem Rd.nil (w : World) (A : Option Addr) : Rd w A [] := fun h => absurd rfl h
theorem bcell {W w1 : World} (hb : Below W.heap.size W w1) : (∀ b o, b < W.heap.size → w1.cell? ⟨b, o, none⟩ = W.cell? ⟨b, o, none⟩) ∧ (∀ b o, b < W.heap.size → w1.frozen? ⟨b, o, none⟩ = W.frozen? ⟨b, o, none⟩) :=
  ⟨fun b o h => hb.cell (p := ⟨b, o, none⟩) h, fun b o h => hb.frozen (p := ⟨b, o, none⟩) h⟩
theorem below_new {w : World} (o : Obj) : Below w.heap.size w (w.alloc o) := (Below.refl _ _).alloc (Nat.le_refl _) o
theorem below_then {B : Nat} {w w1 w2 : World} (h : Below B w w1) (hB : B ≤ w1.heap.size) (k : Below w1.heap.size w1 w2) : Below B w w2 := h.trans (k.mono hB)
theorem below_seq {w w1 w2 : World} (h : Below w.heap.size w w1) (k : Below w1.heap.size w1 w2) : Below w.heap.size w w2 := h.trans (k.mono h.size)
theorem below_drewN {B : Nat} {w W : World} (h : Below B w W) (n : Nat) : Below B w (W.drewN n) := ⟨h.os, h.tape, h.output, h.size, h.block⟩
theorem cell_new (w : World) (cs : Array Value) (T : TypeId) (j : Nat) (u : Value) (h : cs[j]? = some u) : (w.alloc (.cells cs T)).cell? ⟨w.heap.size, j, none⟩ = some u := by
  rw [World.cell?_alloc_new]; exact h
theorem own_base {w : World} {base : Nat} {e : TypeId} {size n : Nat} {v : Value} {xs : List Value} (h : w.ownsRow base e size v n xs) (k : Nat) (hk : v.ownBlock = some k) : base ≤ k := by
  rcases h.2 with ⟨rfl, _⟩ | ⟨g, cap, cur, rfl, hb, _⟩
  · simp [Value.ownBlock] at hk
  · have : g = k := by simpa [Value.ownBlock] using hk
    omega
theorem own_nil (W : World) (base : Nat) (e : TypeId) (size : Nat) : W.ownsRow base e size (.slice none 0 0) 0 [] := ⟨by simp, .inl ⟨rfl, rfl⟩⟩
/-- what is owned can be read -/
theorem own_rd {w : World} {base : Nat} {e : TypeId} {size n : Nat} {v : Value} {xs : List Value} (h : w.ownsRow base e size v n xs) : ∃ A c, v = .slice A n c ∧ n ≤ c ∧ c ≤ maxLen ∧ Rd w A xs := by
  obtain ⟨h1, h2⟩ := h
  rcases h2 with ⟨rfl, rfl⟩ | ⟨g, cap, cur, rfl, hb, hh, hn, hc, hs, ht⟩
  · have : xs = [] := List.eq_nil_of_length_eq_zero (by simpa using h1)
    subst this
    exact ⟨none, 0, rfl, Nat.le_refl _, Nat.zero_le _, Rd.nil _ _⟩
  · refine ⟨_, cap, rfl, hn, hc, fun _ => ⟨_, rfl, fun j u hj => ?_⟩⟩
    have e : (⟨g, 0, none⟩ : Addr).add j = ⟨g, j, none⟩ := by unfold Addr.add; split <;> simp_all
    rw [e, ← ht, List.getElem?_take] at *
    split at hj
    · simp [World.cell?, hh, ← hj]
    · cases hj
theorem own_below {w w1 : World} {base : Nat} {e : TypeId} {size n : Nat} {v : Value} {xs : List Value} (h : w.ownsRow base e size v n xs) (hb : Below w.heap.size w w1) : w1.ownsRow base e size v n xs := by
  obtain ⟨h1, h2⟩ := h
  refine ⟨h1, ?_⟩
  rcases h2 with h2 | ⟨g, cap, cur, rfl, hg, hh, r⟩
  · exact .inl h2
  · exact .inr ⟨g, cap, cur, rfl, hg, (hb.block g (Array.getElem?_eq_some_iff.1 hh).1).trans hh, r⟩
theorem own_mono {w : World} {base base' : Nat} {e : TypeId} {size n : Nat} {v : Value} {xs : List Value} (h : w.ownsRow base e size v n xs) (hb : base' ≤ base) : w.ownsRow base' e size v n xs := by
  obtain ⟨h1, h2⟩ := h
  refine ⟨h1, ?_⟩
  rcases h2 with h2 | ⟨g, cap, cur, rfl, hg, r⟩
  · exact .inl h2
  · exact .inr ⟨g, cap, cur, rfl, by omega, r⟩

/-- a row of bytes, as a string -/
def strL (l : List UInt8) : ByteArray := ⟨l.toArray⟩
theorem strL_size (l : List UInt8) : (strL l).size = l.length := by simp [strL, ByteArray.size]
theorem strL_append (a b : List UInt8) : strL a ++ strL b = strL (a ++ b) := by
  apply ByteArray.ext; simp [strL, ByteArray.data_append]
theorem strL_inj {a b : List UInt8} (h : strL a = strL b) : a = b := by
  have := congrArg (fun s : ByteArray => s.data.toList) h
  simpa [strL] using this
/-- bytes, as memory holds them -/
def bytesV (l : List UInt8) : List Value := l.map fun b => .int .u8 (b.toNat : Int)
theorem bytesV_length (l : List UInt8) : (bytesV l).length = l.length := by simp [bytesV]
theorem bytesV_append (a b : List UInt8) : bytesV (a ++ b) = bytesV a ++ bytesV b := by simp [bytesV]
theorem info5 : (Try.prog.info? 5).map (fun i => (i.zero, i.size, i.bytes)) = some (some (.int .u8 0), 1, 1) := by kernel_rfl
/-- 'string(b)' of a single byte that was just laid -/
theorem conv1 (x : Int) (W : World) (b : Nat) (hc : W.cell? ⟨b, 0, none⟩ = some (.int .u8 x)) : (convert 30 9 (.slice (some ⟨b, 0, none⟩) 1 1)).run Try.prog W = .ok (.string (strL [UInt8.ofNat x.toNat])) W := by
  refine run_convert_bytes_arg (P := Try.prog) W 30 5 Try.underlying30 Try.underlying5 b 0 1 1 [x] rfl (fun i hi => ?_) 9 Try.underlying9
  obtain rfl : i = 0 := by omega
  simpa using hc
/-- append of one new value to a row of the call's own: its cells -/
theorem news1 (w : World) (u : Value) (T : TypeId) : ∀ j x, [u][j]? = some x → (w.alloc (.cells #[u] T)).cell? ((⟨w.heap.size, 0, none⟩ : Addr).add j) = some x := by
  intro j x hj
  match j with
  | 0 => simp at hj; subst hj; exact cell_new w _ T 0 u rfl
  | j + 1 => simp at hj

theorem bytesV_get {l : List UInt8} {j : Nat} (hj : j < l.length) : (bytesV l)[j]? = some (.int .u8 (l[j].toNat : Int)) := by simp [bytesV, List.getElem?_eq_getElem hj]
/-- 'string(b)' -/
theorem conv_str {w : World} {A : Option Addr} {l : List UInt8} (h : Rd w A (bytesV l)) (c : Nat) : (convert 30 9 (.slice A l.length c)).run Try.prog w = .ok (.string (strL l)) w := by
  cases l with
  | nil =>
    rw [run_convert_bytes_string w 30 9 5 A _ c Try.underlying30 Try.underlying5 Try.underlying9]
    cases A with
    | none => simp [Conv.bytesToString, strL]; rfl
    | some a => rw [List.length_nil, run_bytesToString w a 0 c [] (by simpa using run_loadCells_list (P := Try.prog) w a [] (by simp))]; rfl
  | cons b l =>
    obtain ⟨ad, rfl, hc⟩ := h (by simp [bytesV])
    exact run_convert_bytes_back w 30 9 5 ad c (b :: l) Try.underlying30 Try.underlying5 Try.underlying9 fun j hj => hc j _ (bytesV_get hj)
/-- 'make([]byte, n)' -/
theorem make_bytes (n : Nat) (h : n ≤ 281474976710656) (w : World) : (Instr.makeSlice 30 (.int .i64 (n : Int)) (.int .i64 (n : Int))).run Try.prog w = .ok (.slice (some ⟨w.heap.size, 0, none⟩) n n) (w.alloc (.cells (bytesV (List.replicate n 0)).toArray 5)) := by
  obtain ⟨i0, hi, hz0, hz1, hz2⟩ := info_parts info5
  have := run_make (P := Try.prog) w 30 5 i0 (.int .u8 0) Try.underlying30 hi hz0 .i64 .i64 n n (by omega) (Int.le_refl _) (by rw [hz2]; omega) (by omega)
  rw [this, hz1]
  have e : madeCells (Value.int .u8 0).cells ((n : Int).toNat * 1) = (bytesV (List.replicate n 0)).toArray := by
    apply Array.ext'
    rw [show (Value.int .u8 0).cells = #[.int .u8 0] from rfl, toList_madeCells_one]
    simp [bytesV]
  rw [e]
  simp
theorem rd_new (w : World) (cs : List Value) (T : TypeId) : Rd (w.alloc (.cells cs.toArray T)) (some ⟨w.heap.size, 0, none⟩) cs := fun _ => ⟨_, rfl, fun j u hj => by
  have e : (⟨w.heap.size, 0, none⟩ : Addr).add j = ⟨w.heap.size, j, none⟩ := by unfold Addr.add; split <;> simp_all
  rw [e]; exact cell_new w _ T j u (by simpa using hj)⟩
/-- '[]byte(s)' -/
theorem conv_bytes (s : ByteArray) (w : World) : (convert 9 30 (.string s)).run Try.prog w = .ok (.slice (some ⟨w.heap.size, 0, none⟩) s.size (grownCap w s.size 0 5)) (bytesWorld w 5 s) :=
  Go.Lib.run_convert_string_bytes w 9 30 5 s Try.underlying9 Try.underlying30 Try.underlying5
/-- a string's bytes -/
def bl (s : ByteArray) : List UInt8 := s.data.toList
theorem bl_length (s : ByteArray) : (bl s).length = s.size := by rw [bl, Array.length_toList]; rfl
theorem strL_bl (s : ByteArray) : strL (bl s) = s := by simp [strL, bl]
theorem bl_strL (l : List UInt8) : bl (strL l) = l := by simp [strL, bl]
theorem bytesWorld_below (w : World) (e : TypeId) (s : ByteArray) : Below w.heap.size w (bytesWorld w e s) :=
  ⟨rfl, rfl, rfl, by rw [bytesWorld_size]; omega, fun k hk => bytesWorld_at_old w e s k hk⟩
theorem bytesWorld_rd (w : World) (e : TypeId) (s : ByteArray) : Rd (bytesWorld w e s) (some ⟨w.heap.size, 0, none⟩) (bytesV (bl s)) := fun _ => ⟨_, rfl, fun j u hj => by
  have hj' : j < (bl s).length := by have := (List.getElem?_eq_some_iff.1 hj).1; simpa [bytesV] using this
  have e1 : (⟨w.heap.size, 0, none⟩ : Addr).add j = ⟨w.heap.size, j, none⟩ := by unfold Addr.add; split <;> simp_all
  rw [e1, bytesWorld_cell w e s j (by rw [← bl_length]; exact hj')]
  rw [bytesV_get hj'] at hj
  rw [← hj]
  simp [bl, List.getD, List.getElem?_eq_getElem (show j < s.data.toList.length from hj')]⟩

theorem Rd.take {w : World} {A : Option Addr} {cs : List Value} (h : Rd w A cs) (n : Nat) : Rd w A (cs.take n) := fun hne => by
  obtain ⟨ad, rfl, hc⟩ := h (by rintro rfl; simp at hne)
  refine ⟨ad, rfl, fun j u hj => hc j u ?_⟩
  rw [List.getElem?_take] at hj
  split at hj
  · exact hj
  · cases hj
/-- a store over a store -/
theorem setCell_twice (w : World) (a : Addr) (u v : Value) : (w.setCell a u).setCell a v = w.setCell a v := by
  have h : ((w.setCell a u).setCell a v).heap = (w.setCell a v).heap := by
    apply Array.ext_getElem?
    intro i
    simp only [World.setCell, Array.getElem?_modify]
    by_cases hi : a.block = i
    · subst hi
      simp only [if_true]
      cases w.heap[a.block]? with
      | none => rfl
      | some o => cases o <;> simp <;> split <;> simp_all
    · simp [hi]
  exact congrArg (fun H => ({ w with heap := H } : World)) h
/-- a row of bytes that a call hands back -/
def OutB (w : World) (v : Value) (l : List UInt8) : Prop := ∃ A c, v = .slice A l.length c ∧ l.length ≤ c ∧ Rd w A (bytesV l)
theorem OutB.below {w w1 : World} {v : Value} {l : List UInt8} (h : OutB w v l) (hb : Below w.heap.size w w1) : OutB w1 v l := by
  obtain ⟨A, c, e, hc, hr⟩ := h
  exact ⟨A, c, e, hc, hr.below hb⟩
end Go.Proofs.Ytepfabijmhhhcaa
