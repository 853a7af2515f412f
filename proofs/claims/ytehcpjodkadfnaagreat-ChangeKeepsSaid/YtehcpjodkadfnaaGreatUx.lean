/- Merged out of: Nl Nm. -/
import Derived.Test.YtehcpjodkadfnaaGreatUw
import Derived.Maps.Keyed
import Derived.Carry
/- Maps that are filled and looked up: their entries, one by one. -/
set_option linter.unusedSimpArgs false
set_option linter.unusedVariables false
set_option maxRecDepth 100000
namespace Go.Proofs.YtehcpjodkadfnaaGreat
open Go.RowKit Go.Lib Go.Maps

/-- the entries that a map holds -/
def MBk (w : World) (b : Nat) (es : List MapEntry) (clock : Nat) : Prop := w.heap[b]? = some (.map es.toArray clock)
theorem MBk.grown {w w' : World} {b : Nat} {es : List MapEntry} {clock : Nat} {row : Option Nat} (h : MBk w b es clock) (hg : w.grownBy w' row) (hn : some b ≠ row) : MBk w' b es clock := (hg.block b (Array.getElem?_eq_some_iff.1 h).1 hn).trans h
theorem MBk.below {w w' : World} {b : Nat} {es : List MapEntry} {clock : Nat} (h : MBk w b es clock) (hb : Below w.heap.size w w') : MBk w' b es clock := (hb.block b (Array.getElem?_eq_some_iff.1 h).1).trans h
section
variable {P : Program} {t k e : TypeId}
def ent (key val : Value) (c : Nat) : MapEntry := { key := key, val := val, born := c }
theorem map_insert (K : Keyed P k) (ht : P.underlying t = some (.map k e)) {w : World} {b : Nat} {es : List MapEntry} {clock : Nat} (hb : MBk w b es clock) (hes : ∀ x ∈ es, ∃ l, keyOf P k x.key = some l) {key val : Value} {l : Lit} (hk : keyOf P k key = some l) (hn : ∀ x ∈ es, x.key ≠ key) :
    ∃ w', (Instr.mapUpdate t (.map (some b)) key val).run P w = .ok () w' ∧ MBk w' b (es ++ [ent key val clock]) (clock + 1) ∧ w.grownBy w' (some b) ∧ w'.heap.size = w.heap.size := by
  have hlt : b < w.heap.size := (Array.getElem?_eq_some_iff.1 hb).1
  have hfind : (Instr.findKey k key es).run P w = .ok none w := by
    rcases K.find w hk es hes with ⟨h, _⟩ | ⟨j, x, _, h2, h3⟩
    · exact h
    · exact absurd h3 (hn x (List.mem_of_getElem? h2))
  refine ⟨{ w with heap := w.heap.setIfInBounds b (.map (es ++ [ent key val clock]).toArray (clock + 1)) }, ?_, ?_, ?_, by simp⟩
  · simp [Instr.mapUpdate, run_underlying ht, MapKept.run_getObj_map hb, K.check w false hk, hfind, MapKept.run_setObj_map _ hb, Result.andThen, ent]
  · simp [MBk, hlt]
  · exact ⟨rfl, rfl, rfl, by simp, fun j hj hne => by
      show (w.heap.setIfInBounds b _)[j]? = _
      rw [Array.getElem?_setIfInBounds_ne (by rintro rfl; exact hne rfl)]⟩
theorem map_some (K : Keyed P k) (ht : P.underlying t = some (.map k e)) {w : World} {b : Nat} {es : List MapEntry} {clock : Nat} (hb : MBk w b es clock) (hes : ∀ x ∈ es, ∃ l, keyOf P k x.key = some l) {key val : Value} {l : Lit} (hk : keyOf P k key = some l) (hv : ∃ x ∈ es, x.key = key) (hval : ∀ x ∈ es, x.key = key → x.val = val) (c : Bool) :
    (Instr.lookup t (.map (some b)) key c).run P w = .ok (if c then .tuple #[val, .bool true] else val) w := by
  obtain ⟨j, x, hfind, h2, h3⟩ : ∃ j x, (Instr.findKey k key es).run P w = .ok (some (j, x.val)) w ∧ es[j]? = some x ∧ x.key = key := by
    rcases K.find w hk es hes with ⟨_, h⟩ | h
    · obtain ⟨x, h1, h2⟩ := hv; exact absurd h2 (h x h1)
    · exact h
  rw [hval x (List.mem_of_getElem? h2) h3] at hfind
  cases c <;> simp [Instr.lookup, run_underlying ht, MapKept.run_getObj_map hb, K.check w _ hk, hfind, Result.andThen]
theorem map_none (K : Keyed P k) (ht : P.underlying t = some (.map k e)) {w : World} {b : Nat} {es : List MapEntry} {clock : Nat} (hb : MBk w b es clock) (hes : ∀ x ∈ es, ∃ l, keyOf P k x.key = some l) {key : Value} {l : Lit} (hk : keyOf P k key = some l) (hn : ∀ x ∈ es, x.key ≠ key) {z : Value} (hz : (zeroValue e).run P w = .ok z w) (c : Bool) :
    (Instr.lookup t (.map (some b)) key c).run P w = .ok (if c then .tuple #[z, .bool false] else z) w := by
  have hfind : (Instr.findKey k key es).run P w = .ok none w := by
    rcases K.find w hk es hes with ⟨h, _⟩ | ⟨j, x, _, h2, h3⟩
    · exact h
    · exact absurd h3 (hn x (List.mem_of_getElem? h2))
  cases c <;> simp [Instr.lookup, run_underlying ht, MapKept.run_getObj_map hb, K.check w _ hk, hfind, hz, Result.andThen]
theorem key_int (hk : P.underlying k = some (.int .i64)) {x : Int} (h0 : -9223372036854775808 ≤ x) (h1 : x ≤ 9223372036854775807) : keyOf P k (.int .i64 x) = some (.int .i64 x) := by
  have hw : (Lit.int .i64 x).wf = true := by
    have e0 : IntKind.i64.min = -9223372036854775808 := by decide
    have e1 : IntKind.i64.max = 9223372036854775807 := by decide
    simp [Lit.wf, e0, e1]; omega
  simp [keyOf, hk, mapKey, hw]
end
theorem make_map (w : World) : (Instr.makeMap 81 none).run Tryz.prog w = .ok (.map (some w.heap.size)) (w.alloc (.map #[] 0)) := run_makeMap _ _
end Go.Proofs.YtehcpjodkadfnaaGreat
/- Layer 8 of the heap, changes: the five ways, laid into a map. -/
set_option linter.unusedSimpArgs false
set_option linter.unusedVariables false
set_option maxRecDepth 100000
namespace Go.Proofs.YtehcpjodkadfnaaGreat
open Go.RowKit Go.Lib Go.Maps

theorem keyed5 : Keyed Tryz.prog 3 := int_keyed Tryz.underlying3
theorem key5 {x : Int} (h0 : -9223372036854775808 ≤ x) (h1 : x ≤ 9223372036854775807) : keyOf Tryz.prog 3 (.int .i64 x) = some (.int .i64 x) := key_int Tryz.underlying3 h0 h1
theorem keys5 {es : List MapEntry} {ks : List Int} (h : es.map (·.key) = ks.map (Value.int .i64)) (hk : ∀ x ∈ ks, -9223372036854775808 ≤ x ∧ x ≤ 9223372036854775807) : ∀ x ∈ es, ∃ l, keyOf Tryz.prog 3 x.key = some l := by
  intro x hx
  have : x.key ∈ es.map (·.key) := List.mem_map_of_mem hx
  rw [h] at this
  obtain ⟨n, hn, e⟩ := List.mem_map.1 this
  rw [← e]
  exact ⟨_, key5 (hk n hn).1 (hk n hn).2⟩
theorem keys_ne {es : List MapEntry} {ks : List Int} (h : es.map (·.key) = ks.map (Value.int .i64)) {k : Int} (hk : k ∉ ks) : ∀ x ∈ es, x.key ≠ .int .i64 k := by
  intro x hx e
  have : x.key ∈ es.map (·.key) := List.mem_map_of_mem hx
  rw [h] at this
  obtain ⟨n, hn, e2⟩ := List.mem_map.1 this
  rw [e] at e2
  cases e2
  exact hk hn
theorem ins5 {w : World} {b : Nat} {es : List MapEntry} {clock : Nat} (hb : MBk w b es clock) (ks : List Int) (hks : es.map (·.key) = ks.map (Value.int .i64)) (h1 : ∀ x ∈ ks, -9223372036854775808 ≤ x ∧ x ≤ 9223372036854775807) (k : Int) (hk : k ∉ ks) (h0 : -9223372036854775808 ≤ k ∧ k ≤ 9223372036854775807) (v : Value) :
    ∃ w', (Instr.mapUpdate 81 (.map (some b)) (.int .i64 k) v).run Tryz.prog w = .ok () w' ∧ MBk w' b (es ++ [ent (.int .i64 k) v clock]) (clock + 1) ∧ w.grownBy w' (some b) ∧ w'.heap.size = w.heap.size :=
  map_insert keyed5 Tryz.underlying81 hb (keys5 hks h1) (key5 h0.1 h0.2) (keys_ne hks hk)
theorem ways_made (V : World) : ∃ V4 V6 V8 V10 V11 : World,
    (Instr.mapUpdate 81 (.map (some V.heap.size)) (.int .i64 1) (.func (.func 34) #[] #[])).run Tryz.prog (V.alloc (.map #[] 0)) = .ok () V4 ∧
    (Instr.mapUpdate 81 (.map (some V.heap.size)) (.int .i64 2) (.func (.func 63) #[] #[.pointer (some ⟨V4.heap.size, 0, none⟩)])).run Tryz.prog (V4.alloc (.cells #[.func (.func 36) #[] #[]] 80)) = .ok () V6 ∧
    (Instr.mapUpdate 81 (.map (some V.heap.size)) (.int .i64 3) (.func (.func 63) #[] #[.pointer (some ⟨V6.heap.size, 0, none⟩)])).run Tryz.prog (V6.alloc (.cells #[.func (.func 37) #[] #[]] 80)) = .ok () V8 ∧
    (Instr.mapUpdate 81 (.map (some V.heap.size)) (.int .i64 4) (.func (.func 63) #[] #[.pointer (some ⟨V8.heap.size, 0, none⟩)])).run Tryz.prog (V8.alloc (.cells #[.func (.func 38) #[] #[]] 80)) = .ok () V10 ∧
    (Instr.mapUpdate 81 (.map (some V.heap.size)) (.int .i64 5) (.func (.func 39) #[] #[])).run Tryz.prog V10 = .ok () V11 ∧
    MBk V11 V.heap.size [ent (.int .i64 1) (.func (.func 34) #[] #[]) 0, ent (.int .i64 2) (.func (.func 63) #[] #[.pointer (some ⟨V4.heap.size, 0, none⟩)]) 1, ent (.int .i64 3) (.func (.func 63) #[] #[.pointer (some ⟨V6.heap.size, 0, none⟩)]) 2, ent (.int .i64 4) (.func (.func 63) #[] #[.pointer (some ⟨V8.heap.size, 0, none⟩)]) 3, ent (.int .i64 5) (.func (.func 39) #[] #[]) 4] 5 ∧ V11.cell? ⟨V4.heap.size, 0, none⟩ = some (.func (.func 36) #[] #[]) ∧ V11.cell? ⟨V6.heap.size, 0, none⟩ = some (.func (.func 37) #[] #[]) ∧ V11.cell? ⟨V8.heap.size, 0, none⟩ = some (.func (.func 38) #[] #[]) ∧ Below V.heap.size V V11 := by
  have B0 := below_new (w := V) (.map #[] 0)
  have M0 : MBk (V.alloc (.map #[] 0)) V.heap.size [] 0 := World.alloc_heap_new V _
  obtain ⟨V4, r4, M4, g4, z4⟩ := ins5 M0 [] rfl (by simp) 1 (by simp) (by omega) (.func (.func 34) #[] #[])
  have y4 : V.heap.size < V4.heap.size := by rw [z4]; simp
  have B4 := B0.grown g4 (by simp) (fun g hg => by have hh := Option.some.inj hg; omega)
  have M5 := M4.below (below_new (.cells #[.func (.func 36) #[] #[]] 80))
  have c5 := cell_new V4 #[.func (.func 36) #[] #[]] 80 0 _ rfl
  obtain ⟨V6, r6, M6, g6, z6⟩ := ins5 M5 [1] rfl (by simp) 2 (by simp) (by omega) (.func (.func 63) #[] #[.pointer (some ⟨V4.heap.size, 0, none⟩)])
  have y6 : V4.heap.size < V6.heap.size := by rw [z6]; simp
  have B6 := (B4.alloc B4.size (.cells #[.func (.func 36) #[] #[]] 80)).grown g6 (by simp; omega) (fun g hg => by have hh := Option.some.inj hg; omega)
  have c6 := (World.cell?_of_block (a := ⟨V4.heap.size, 0, none⟩) (g6.block _ (by simp) (by intro e; have hh := Option.some.inj e; (try simp at hh); omega))).trans c5
  have M7 := M6.below (below_new (.cells #[.func (.func 37) #[] #[]] 80))
  have d7 := cell_new V6 #[.func (.func 37) #[] #[]] 80 0 _ rfl
  have c7 := cell_below (B := 0) (below_new (.cells #[.func (.func 37) #[] #[]] 80)) c6
  obtain ⟨V8, r8, M8, g8, z8⟩ := ins5 M7 [1, 2] rfl (by simp) 3 (by simp) (by omega) (.func (.func 63) #[] #[.pointer (some ⟨V6.heap.size, 0, none⟩)])
  have y8 : V6.heap.size < V8.heap.size := by rw [z8]; simp
  have B8 := (B6.alloc B6.size (.cells #[.func (.func 37) #[] #[]] 80)).grown g8 (by simp; omega) (fun g hg => by have hh := Option.some.inj hg; omega)
  have c8 := (World.cell?_of_block (a := ⟨V4.heap.size, 0, none⟩) (g8.block _ (by simp; omega) (by intro e; have hh := Option.some.inj e; (try simp at hh); omega))).trans c7
  have d8 := (World.cell?_of_block (a := ⟨V6.heap.size, 0, none⟩) (g8.block _ (by simp) (by intro e; have hh := Option.some.inj e; (try simp at hh); omega))).trans d7
  have M9 := M8.below (below_new (.cells #[.func (.func 38) #[] #[]] 80))
  have e9 := cell_new V8 #[.func (.func 38) #[] #[]] 80 0 _ rfl
  have c9 := cell_below (B := 0) (below_new (.cells #[.func (.func 38) #[] #[]] 80)) c8
  have d9 := cell_below (B := 0) (below_new (.cells #[.func (.func 38) #[] #[]] 80)) d8
  obtain ⟨V10, r10, M10, g10, z10⟩ := ins5 M9 [1, 2, 3] rfl (by simp) 4 (by simp) (by omega) (.func (.func 63) #[] #[.pointer (some ⟨V8.heap.size, 0, none⟩)])
  have y10 : V8.heap.size < V10.heap.size := by rw [z10]; simp
  have B10 := (B8.alloc B8.size (.cells #[.func (.func 38) #[] #[]] 80)).grown g10 (by simp; omega) (fun g hg => by have hh := Option.some.inj hg; omega)
  have c10 := (World.cell?_of_block (a := ⟨V4.heap.size, 0, none⟩) (g10.block _ (by simp; omega) (by intro e; have hh := Option.some.inj e; (try simp at hh); omega))).trans c9
  have d10 := (World.cell?_of_block (a := ⟨V6.heap.size, 0, none⟩) (g10.block _ (by simp; omega) (by intro e; have hh := Option.some.inj e; (try simp at hh); omega))).trans d9
  have e10 := (World.cell?_of_block (a := ⟨V8.heap.size, 0, none⟩) (g10.block _ (by simp) (by intro e; have hh := Option.some.inj e; (try simp at hh); omega))).trans e9
  obtain ⟨V11, r11, M11, g11, z11⟩ := ins5 M10 [1, 2, 3, 4] rfl (by simp) 5 (by simp) (by omega) (.func (.func 39) #[] #[])
  have B11 := B10.grown g11 (by omega) (fun g hg => by have hh := Option.some.inj hg; omega)
  have c11 := (World.cell?_of_block (a := ⟨V4.heap.size, 0, none⟩) (g11.block _ (by show V4.heap.size < V10.heap.size; omega) (by intro e; have hh := Option.some.inj e; (try simp at hh); omega))).trans c10
  have d11 := (World.cell?_of_block (a := ⟨V6.heap.size, 0, none⟩) (g11.block _ (by show V6.heap.size < V10.heap.size; omega) (by intro e; have hh := Option.some.inj e; (try simp at hh); omega))).trans d10
  have e11 := (World.cell?_of_block (a := ⟨V8.heap.size, 0, none⟩) (g11.block _ (by show V8.heap.size < V10.heap.size; omega) (by intro e; have hh := Option.some.inj e; (try simp at hh); omega))).trans e10
  exact ⟨V4, V6, V8, V10, V11, r4, r6, r8, r10, r11, M11, c11, d11, e11, B11⟩
end Go.Proofs.YtehcpjodkadfnaaGreat
