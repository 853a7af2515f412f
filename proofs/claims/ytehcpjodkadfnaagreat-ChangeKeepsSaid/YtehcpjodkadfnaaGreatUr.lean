/- Merged out of: Nf. -/
import Derived.Test.YtehcpjodkadfnaaGreatUq
import Derived.Maps.AppendAt
/- Layer 8 of the heap, changes: one more field, one less, another name, another kind. -/
set_option linter.unusedSimpArgs false
set_option linter.unusedVariables false
set_option maxRecDepth 100000
namespace Go.Proofs.YtehcpjodkadfnaaGreat
open Go.RowKit Go.Lib

theorem OBox.grown {w w' : World} {b : Nat} {cs : List Value} {T : TypeId} {row : Option Nat} (h : OBox w b cs T) (hg : w.grownBy w' row) (hn : some b ≠ row) : OBox w' b cs T := (hg.block b h.lt hn).trans h
theorem own_grown {w w' : World} {base : Nat} {e : TypeId} {size n : Nat} {v : Value} {xs : List Value} {row : Option Nat} (h : w.ownsRow base e size v n xs) (hg : w.grownBy w' row) (hn : ∀ g, v.ownBlock = some g → some g ≠ row) : w'.ownsRow base e size v n xs :=
  own_keep h fun g hk => hg.block g (own_lt h g hk) (hn g hk)
theorem RdB.grown {b : Nat} {w w' : World} {A : Option Addr} {cs : List Value} {row : Option Nat} (h : RdB b w A cs) (hg : w.grownBy w' row) (hb : b ≤ w.heap.size) (hn : ∀ g, row = some g → b ≤ g) : RdB b w' A cs :=
  h.below ((Below.refl b w).grown hg hb hn)
/-- the cells of a change -/
def chL (c : Ch) (qv : Value) : List Value := [.int .i64 c.op, .string c.s, .string c.g.s, .int .i64 c.g.k, .int .i64 c.g.l, .int .i64 c.d.k, .int .u64 c.d.b, .string c.d.t, qv]
def CBox (w : World) (b : Nat) (c : Ch) (qv : Value) (T : TypeId) : Prop := OBox w b (chL c qv) T
theorem CBox.c9 {w : World} {b : Nat} {c : Ch} {qv : Value} {T : TypeId} (h : CBox w b c qv T) : w.cell? ⟨b, 0, none⟩ = some (.int .i64 c.op) ∧ w.cell? ⟨b, 1, none⟩ = some (.string c.s) ∧ w.cell? ⟨b, 2, none⟩ = some (.string c.g.s) ∧ w.cell? ⟨b, 3, none⟩ = some (.int .i64 c.g.k) ∧ w.cell? ⟨b, 4, none⟩ = some (.int .i64 c.g.l) ∧
    w.cell? ⟨b, 5, none⟩ = some (.int .i64 c.d.k) ∧ w.cell? ⟨b, 6, none⟩ = some (.int .u64 c.d.b) ∧ w.cell? ⟨b, 7, none⟩ = some (.string c.d.t) ∧ w.cell? ⟨b, 8, none⟩ = some qv :=
  ⟨OBox.cell h rfl, OBox.cell h rfl, OBox.cell h rfl, OBox.cell h rfl, OBox.cell h rfl, OBox.cell h rfl, OBox.cell h rfl, OBox.cell h rfl, OBox.cell h rfl⟩
theorem CBox.below {w w1 : World} {b : Nat} {c : Ch} {qv : Value} {T : TypeId} (h : CBox w b c qv T) (hb : Below w.heap.size w w1) : CBox w1 b c qv T := OBox.below h hb
/-- nothing that was there has changed but two rows -/
structure Only (r2 r3 : Option Nat) (w w' : World) : Prop where
  os : w'.os = w.os
  tape : w'.tape = w.tape
  output : w'.output = w.output
  size : w.heap.size ≤ w'.heap.size
  block : ∀ k, k < w.heap.size → some k ≠ r2 → some k ≠ r3 → w'.heap[k]? = w.heap[k]?
theorem Only.of {r2 r3 : Option Nat} {w w' : World} (h : Below w.heap.size w w') : Only r2 r3 w w' := ⟨h.os, h.tape, h.output, h.size, fun k hk _ _ => h.block k hk⟩
theorem Only.low {r2 r3 : Option Nat} {w w' : World} {B : Nat} (h : Only r2 r3 w w') (hB : B ≤ w.heap.size) (h2 : ∀ g, r2 = some g → B ≤ g) (h3 : ∀ g, r3 = some g → B ≤ g) : Below B w w' :=
  ⟨h.os, h.tape, h.output, h.size, fun k hk => h.block k (by omega) (fun e => by have := h2 k e.symm; omega) (fun e => by have := h3 k e.symm; omega)⟩
theorem Only.grown {r2 r3 row : Option Nat} {w W W' : World} (h : Only r2 r3 w W) (hg : W.grownBy W' row) (hr : row = r2 ∨ row = r3) : Only r2 r3 w W' :=
  ⟨hg.os.trans h.os, hg.tape.trans h.tape, hg.output.trans h.output, Nat.le_trans h.size hg.size, fun k hk n2 n3 => (hg.block k (by have := h.size; omega) (by rcases hr with e | e <;> rw [e] <;> assumption)).trans (h.block k hk n2 n3)⟩
theorem Only.seq {r2 r3 : Option Nat} {w W W' : World} (h : Only r2 r3 w W) (hb : Below W.heap.size W W') : Only r2 r3 w W' :=
  ⟨hb.os.trans h.os, hb.tape.trans h.tape, hb.output.trans h.output, Nat.le_trans h.size hb.size, fun k hk n2 n3 => (hb.block k (by have := h.size; omega)).trans (h.block k hk n2 n3)⟩
theorem Only.setCell {r2 r3 : Option Nat} {w W : World} (h : Only r2 r3 w W) {p : Addr} (hp : w.heap.size ≤ p.block) (u : Value) : Only r2 r3 w (W.setCell p u) :=
  ⟨h.os, h.tape, h.output, by simpa [World.setCell] using h.size, fun k hk n2 n3 => (Below.heap_setCell _ _ _ _ (by omega)).trans (h.block k hk n2 n3)⟩
theorem Only.then {r2 r3 : Option Nat} {w W W' : World} (h : Only r2 r3 w W) (hb : Only r2 r3 W W') : Only r2 r3 w W' :=
  ⟨hb.os.trans h.os, hb.tape.trans h.tape, hb.output.trans h.output, Nat.le_trans h.size hb.size, fun k hk n2 n3 => (hb.block k (by have := h.size; omega) n2 n3).trans (h.block k hk n2 n3)⟩
theorem OBox.only {r2 r3 : Option Nat} {w w' : World} {b : Nat} {cs : List Value} {T : TypeId} (h : OBox w b cs T) (ho : Only r2 r3 w w') (n2 : some b ≠ r2) (n3 : some b ≠ r3) : OBox w' b cs T := (ho.block b h.lt n2 n3).trans h
/-- what cells hold, from an address on, in a block of a kind -/
def RdP (P : Nat → Prop) (w : World) (A : Option Addr) (cs : List Value) : Prop := cs ≠ [] → ∃ ad, A = some ad ∧ P ad.block ∧ ∀ j u, cs[j]? = some u → w.cell? (ad.add j) = some u
theorem RdP.rd {P : Nat → Prop} {w : World} {A : Option Addr} {cs : List Value} (h : RdP P w A cs) : Rd w A cs := fun hn => by
  obtain ⟨ad, e, _, hc⟩ := h hn; exact ⟨ad, e, hc⟩
theorem RdP.keep {P : Nat → Prop} {w w' : World} {A : Option Addr} {cs : List Value} (h : RdP P w A cs) (hk : ∀ k, P k → w'.heap[k]? = w.heap[k]?) : RdP P w' A cs := fun hn => by
  obtain ⟨ad, e, hp, hc⟩ := h hn
  refine ⟨ad, e, hp, fun j u hj => (World.cell?_of_block ?_).trans (hc j u hj)⟩
  have : (ad.add j).block = ad.block := by unfold Addr.add; split <;> rfl
  rw [this]; exact hk _ hp
theorem RdP.mono {P Q : Nat → Prop} {w : World} {A : Option Addr} {cs : List Value} (h : RdP P w A cs) (hq : ∀ k, P k → Q k) : RdP Q w A cs := fun hn => by
  obtain ⟨ad, e, hp, hc⟩ := h hn; exact ⟨ad, e, hq _ hp, hc⟩
theorem RdP.mk {P : Nat → Prop} {w : World} {A : Option Addr} {cs : List Value} (h : Rd w A cs) (hp : ∀ ad, A = some ad → P ad.block) : RdP P w A cs := fun hn => by
  obtain ⟨ad, e, hc⟩ := h hn; exact ⟨ad, e, hp ad e, hc⟩
def TVP (P : Nat → Prop) (w : World) (v : Value) (t : Tb) : Prop := ∃ A c B d C e, v = .agg #[.slice A t.o.length c, .slice B t.n.length d, .slice C t.m.length e] ∧ t.n.length ≤ d ∧ RdP P w A (cellsF t.o) ∧ RdP P w B (cellsF t.n) ∧ RdP P w C (cellsM t.m)
theorem TVP.keep {P : Nat → Prop} {w w' : World} {v : Value} {t : Tb} (h : TVP P w v t) (hk : ∀ k, P k → w'.heap[k]? = w.heap[k]?) : TVP P w' v t := by
  obtain ⟨A, c, B, d, C, e, hv, hd, h0, h1, h2⟩ := h
  exact ⟨A, c, B, d, C, e, hv, hd, h0.keep hk, h1.keep hk, h2.keep hk⟩
theorem TVP.mono {P Q : Nat → Prop} {w : World} {v : Value} {t : Tb} (h : TVP P w v t) (hq : ∀ k, P k → Q k) : TVP Q w v t := by
  obtain ⟨A, c, B, d, C, e, hv, hd, h0, h1, h2⟩ := h
  exact ⟨A, c, B, d, C, e, hv, hd, h0.mono hq, h1.mono hq, h2.mono hq⟩
/-- what a step of a change hands back -/
def StepP (r2 r3 : Option Nat) (P : Nat → Prop) (t : Tb) (code : Int) (w : World) (e : Ending) (w' : World) : Prop :=
  ∃ A na ca B nb cb C nc cc, e = .returned (.tuple #[.agg #[.slice A na ca, .slice B nb cb, .slice C nc cc], .int .i64 code]) ∧ (code = 0 → TVP P w' (.agg #[.slice A na ca, .slice B nb cb, .slice C nc cc]) t) ∧ Only r2 r3 w w'
theorem own_P {w : World} {P : Nat → Prop} {base n c : Nat} {e : TypeId} {K : Nat} {A : Option Addr} {xs : List Value} (h : w.ownsRow base e K (.slice A n c) n xs) (hp : ∀ g, (Value.slice A n c).ownBlock = some g → P g) : RdP P w A xs := by
  obtain ⟨A', c', e1, _, _, hr⟩ := own_rd h
  cases e1
  exact RdP.mk hr fun ad e => hp _ (by rw [e]; rfl)
theorem own_TV {w : World} {P : Nat → Prop} {A : Option Addr} {m c n k b b' : Nat} {v2 v3 : Value} {t : Tb} (hm : t.o.length = m) (R : Rd w A (cellsF t.o)) (hp : ∀ ad, A = some ad → P ad.block) (o2 : w.ownsRow b 29 3 v2 n (cellsF t.n)) (hn : t.n.length = n) (p2 : ∀ g, v2.ownBlock = some g → P g)
    (o3 : w.ownsRow b' 61 4 v3 k (cellsM t.m)) (hk : t.m.length = k) (p3 : ∀ g, v3.ownBlock = some g → P g) : TVP P w (.agg #[.slice A m c, v2, v3]) t := by
  subst hm hn hk
  obtain ⟨B, d, rfl, hd, _, _⟩ := own_rd o2
  obtain ⟨C, e, rfl, _, _, _⟩ := own_rd o3
  exact ⟨A, c, B, d, C, e, rfl, hd, RdP.mk R hp, own_P o2 p2, own_P o3 p3⟩
set_option maxHeartbeats 4000000 in
theorem adds_no (l : List Fd) (c : Ch) (m : Nat) (hm : l.length = m) (h16 : m ≤ 16) (B : Option Addr) (d b1 b2 : Nat) (v2 v3 qv : Value) (w : World) (h1 : b1 ≤ b2) (h2 : b2 ≤ w.heap.size) (R1 : RdB b1 w B (cellsF l)) (own2 : w.ownsRow b1 29 3 v2 m (cellsF l)) (lt2 : OwnLt b2 v2) (own3 : w.ownsRow b2 61 4 v3 m (cellsM (kM m))) (P : Nat → Prop) (hP1 : ∀ ad, B = some ad → P ad.block) (hP2 : ∀ g, v2.ownBlock = some g → P g) (hP3 : ∀ g, v3.ownBlock = some g → P g) (hPn : ∀ g, w.heap.size ≤ g → P g) (x0 : 0 ≤ c.d.b) (x1 : c.d.b < 18446744073709551616) (hr : rightB c.d.k c.d.b c.d.t c.g.k c.g.l = false) :
    Calls Tryz.prog 34 #[.agg #[.slice B m d, v2, v3], .agg #[.int .i64 c.op, .string c.s, .string c.g.s, .int .i64 c.g.k, .int .i64 c.g.l, .int .i64 c.d.k, .int .u64 c.d.b, .string c.d.t, qv]] w fun e w' => StepP v2.ownBlock v3.ownBlock P Tb.z 80 w e w' := by
  obtain ⟨B2, d2, rfl, hd2, hmx2, rd2⟩ := own_rd own2
  obtain ⟨B3, d3, rfl, hd3, hmx3, rd3⟩ := own_rd own3
  have bb1 := below_new (w := w) (.cells #[.slice B m d, .slice B2 m d2, .slice B3 m d3] 36)
  have bb2 := below_new (w := w.alloc (.cells #[.slice B m d, .slice B2 m d2, .slice B3 m d3] 36)) (.cells #[.int .i64 c.op, .string c.s, .string c.g.s, .int .i64 c.g.k, .int .i64 c.g.l, .int .i64 c.d.k, .int .u64 c.d.b, .string c.d.t, qv] 57)
  have bb3 := below_new (w := (w.alloc (.cells #[.slice B m d, .slice B2 m d2, .slice B3 m d3] 36)).alloc (.cells #[.int .i64 c.op, .string c.s, .string c.g.s, .int .i64 c.g.k, .int .i64 c.g.l, .int .i64 c.d.k, .int .u64 c.d.b, .string c.d.t, qv] 57)) (.cells #[.slice none 0 0, .slice none 0 0, .slice none 0 0] 36)
  have T1 := ((OBox.new w [.slice B m d, .slice B2 m d2, .slice B3 m d3] 36).below bb2).below bb3
  have C1 : CBox _ _ c qv 57 := (OBox.new (w.alloc (.cells #[.slice B m d, .slice B2 m d2, .slice B3 m d3] 36)) (chL c qv) 57).below bb3
  have N1 := OBox.new ((w.alloc (.cells #[.slice B m d, .slice B2 m d2, .slice B3 m d3] 36)).alloc (.cells #[.int .i64 c.op, .string c.s, .string c.g.s, .int .i64 c.g.k, .int .i64 c.g.l, .int .i64 c.d.k, .int .u64 c.d.b, .string c.d.t, qv] 57)) [.slice none 0 0, .slice none 0 0, .slice none 0 0] 36
  have HB := below_seq (below_seq bb1 bb2) bb3
  rw [World.size_alloc] at C1
  rw [World.size_alloc, World.size_alloc] at N1
  obtain ⟨i1, i2, i3, j1, j2, j3⟩ := T1.f3
  obtain ⟨n1, n2, n3, o1, o2, o3⟩ := N1.f3
  obtain ⟨a0, a1, a2, a3, a4, a5, a6, a7, a8⟩ := C1.c9
  have HM := Lib.hid hm
  have HP1 := Lib.hid hP1
  have HP2 := Lib.hid hP2
  have HP3 := Lib.hid hP3
  have HPN := Lib.hid hPn
  clear hm bb1 bb2 bb3 hP1 hP2 hP3 hPn
  have HR := Lib.hid hr
  clear hr
  go_enter Tryz.func34, Tryz.ntmps34
  go_wp2_with (go_at_call 49; refine (Right_is c.d.k c.d.b c.d.t c.g.s c.g.k c.g.l x0 x1 false HR.out _).mono ?_; rintro e wM ⟨rfl, hb⟩; replace HB := HB.trans (hb.mono HB.size); replace T1 := T1.below hb; replace N1 := N1.below hb; clear hb i1 i2 i3 j1 j2 j3 n1 n2 n3 o1 o2 o3 a0 a1 a2 a3 a4 a5 a6 a7 a8; obtain ⟨i1, i2, i3, j1, j2, j3⟩ := T1.f3; obtain ⟨n1, n2, n3, o1, o2, o3⟩ := N1.f3)
  refine bodyPost_ret (v := .tuple #[.agg #[.slice B m d, .slice B2 m d2, .slice B3 m d3], .int .i64 80]) (by simp [results, Tryz.results34, go_sem, *]; done) rfl ⟨_, _, _, _, _, _, _, _, _, rfl, fun h => absurd h (by decide), Only.of ?_⟩
  (repeat (first | exact HB | refine Below.setCell ?_ (by dsimp only; omega) _ | refine Below.alloc ?_ (by have hs_ := HB.size; first | (simp; done) | (simp; omega) | omega) _ | apply Below.drew))
set_option maxHeartbeats 4000000 in
theorem adds_yes (l : List Fd) (c : Ch) (m : Nat) (hm : l.length = m) (h16 : m ≤ 16) (B : Option Addr) (d b1 b2 : Nat) (v2 v3 qv : Value) (w : World) (h1 : b1 ≤ b2) (h2 : b2 ≤ w.heap.size) (R1 : RdB b1 w B (cellsF l)) (own2 : w.ownsRow b1 29 3 v2 m (cellsF l)) (lt2 : OwnLt b2 v2) (own3 : w.ownsRow b2 61 4 v3 m (cellsM (kM m))) (P : Nat → Prop) (hP1 : ∀ ad, B = some ad → P ad.block) (hP2 : ∀ g, v2.ownBlock = some g → P g) (hP3 : ∀ g, v3.ownBlock = some g → P g) (hPn : ∀ g, w.heap.size ≤ g → P g) (x0 : 0 ≤ c.d.b) (x1 : c.d.b < 18446744073709551616) (hr : rightB c.d.k c.d.b c.d.t c.g.k c.g.l = true) :
    Calls Tryz.prog 34 #[.agg #[.slice B m d, v2, v3], .agg #[.int .i64 c.op, .string c.s, .string c.g.s, .int .i64 c.g.k, .int .i64 c.g.l, .int .i64 c.d.k, .int .u64 c.d.b, .string c.d.t, qv]] w fun e w' => StepP v2.ownBlock v3.ownBlock P ⟨l, l ++ [c.g], kM m ++ [⟨-1, c.d⟩]⟩ 0 w e w' := by
  obtain ⟨iF, hiF, hzF0, hzF1, hzF2⟩ := info_parts infoFd
  obtain ⟨iM, hiM, hzM0, hzM1, hzM2⟩ := info_parts infoMv
  obtain ⟨B2, d2, rfl, hd2, hmx2, rd2⟩ := own_rd own2
  obtain ⟨B3, d3, rfl, hd3, hmx3, rd3⟩ := own_rd own3
  have bb1 := below_new (w := w) (.cells #[.slice B m d, .slice B2 m d2, .slice B3 m d3] 36)
  have bb2 := below_new (w := w.alloc (.cells #[.slice B m d, .slice B2 m d2, .slice B3 m d3] 36)) (.cells #[.int .i64 c.op, .string c.s, .string c.g.s, .int .i64 c.g.k, .int .i64 c.g.l, .int .i64 c.d.k, .int .u64 c.d.b, .string c.d.t, qv] 57)
  have bb3 := below_new (w := (w.alloc (.cells #[.slice B m d, .slice B2 m d2, .slice B3 m d3] 36)).alloc (.cells #[.int .i64 c.op, .string c.s, .string c.g.s, .int .i64 c.g.k, .int .i64 c.g.l, .int .i64 c.d.k, .int .u64 c.d.b, .string c.d.t, qv] 57)) (.cells #[.slice none 0 0, .slice none 0 0, .slice none 0 0] 36)
  have T1 := ((OBox.new w [.slice B m d, .slice B2 m d2, .slice B3 m d3] 36).below bb2).below bb3
  have C1 : CBox _ _ c qv 57 := (OBox.new (w.alloc (.cells #[.slice B m d, .slice B2 m d2, .slice B3 m d3] 36)) (chL c qv) 57).below bb3
  have N1 := OBox.new ((w.alloc (.cells #[.slice B m d, .slice B2 m d2, .slice B3 m d3] 36)).alloc (.cells #[.int .i64 c.op, .string c.s, .string c.g.s, .int .i64 c.g.k, .int .i64 c.g.l, .int .i64 c.d.k, .int .u64 c.d.b, .string c.d.t, qv] 57)) [.slice none 0 0, .slice none 0 0, .slice none 0 0] 36
  have HB := below_seq (below_seq bb1 bb2) bb3
  rw [World.size_alloc] at C1
  rw [World.size_alloc, World.size_alloc] at N1
  obtain ⟨i1, i2, i3, j1, j2, j3⟩ := T1.f3
  obtain ⟨n1, n2, n3, o1, o2, o3⟩ := N1.f3
  obtain ⟨a0, a1, a2, a3, a4, a5, a6, a7, a8⟩ := C1.c9
  have HM := Lib.hid hm
  have HP1 := Lib.hid hP1
  have HP2 := Lib.hid hP2
  have HP3 := Lib.hid hP3
  have HPN := Lib.hid hPn
  clear hm bb1 bb2 bb3 hP1 hP2 hP3 hPn
  have HR := Lib.hid hr
  have l2 := own_lt own2
  have l3 := own_lt own3
  clear hr
  go_enter Tryz.func34, Tryz.ntmps34
  go_wp2_with (first
    | (go_at_call 49; refine (Right_is c.d.k c.d.b c.d.t c.g.s c.g.k c.g.l x0 x1 true HR.out _).mono ?_; rintro e wM ⟨rfl, hb⟩; replace HB := HB.trans (hb.mono HB.size); replace T1 := T1.below hb; replace C1 := C1.below hb; replace N1 := N1.below hb; clear hb i1 i2 i3 j1 j2 j3 n1 n2 n3 o1 o2 o3 a0 a1 a2 a3 a4 a5 a6 a7 a8; obtain ⟨i1, i2, i3, j1, j2, j3⟩ := T1.f3; obtain ⟨a0, a1, a2, a3, a4, a5, a6, a7, a8⟩ := C1.c9; have ow2 := own_below own2 HB; have ow3 := own_below own3 HB; have R2 := R1.below (HB.mono (Nat.le_trans h1 h2)); clear own2 own3 R1; have zz := N1.lt; have nf := below_new (w := wM) (.cells #[.string c.g.s, .int .i64 c.g.k, .int .i64 c.g.l] 29); have T2 := T1.below nf; obtain ⟨p1, p2, p3, q1, q2, q3⟩ := T2.f3)
    | (at_builtin; refine wpList_append_own_at _ rfl _ _ 22 rfl b1 29 iF (.agg #[.string ⟨#[]⟩, .int .i64 0, .int .i64 0]) 3 32 Tryz.underlying22 hiF hzF0 hzF1 hzF2 rfl (by decide) _ _ _ rfl (own_below ow2 nf) ⟨wM.heap.size, 0, none⟩ 1 1 [.string c.g.s, .int .i64 c.g.k, .int .i64 c.g.l] rfl rfl ?c1 ?c2 ?c3 ?c4 ?c5 ?_))
  case c1 => exact news3 _ _ _ _ _
  case c2 => intro u hu; simp at hu; rcases hu with rfl | rfl | rfl <;> rfl
  case c3 => simp only [maxLen]; omega
  case c4 => omega
  case c5 => have := nf.size; omega
  intro v' W2 ow2' hg2 _ hat2
  have T3 := T2.grown hg2 (by intro e; have := l2 _ e.symm; omega)
  have C3 : CBox W2 (w.heap.size + 1) c qv 57 := OBox.grown (C1.below nf) hg2 (by intro e; have := l2 _ e.symm; omega)
  have N3 := (N1.below nf).grown hg2 (by intro e; have := l2 _ e.symm; omega)
  have ow3' := own_grown (own_below ow3 nf) hg2 (by intro g hg e; have h5 := lt2 _ e.symm; have h6 := own_base ow3 g hg; omega)
  have R3 := (R2.below (nf.mono (by have := HB.size; omega))).grown hg2 (by have := nf.size; have := HB.size; omega) (fun g hg => own_base ow2 g hg)
  have HB2 : Only (Value.slice B2 m d2).ownBlock (Value.slice B3 m d3).ownBlock w W2 := ((Only.of HB).seq nf).grown hg2 (.inl rfl)
  have z2 : wM.heap.size + 1 ≤ W2.heap.size := by have := hg2.size; simpa using this
  have lv' : ∀ g, v'.ownBlock = some g → g < b2 ∨ wM.heap.size < g := by
    intro g hg
    rcases hat2 with h | h
    · exact .inl (lt2 g (by rw [← h]; exact hg))
    · rw [hg] at h; have h := Option.some.inj h; (try simp at h); right; omega
  have pv' : Hid (∀ g, v'.ownBlock = some g → P g) := Lib.hid (by
    intro g hg
    rcases hat2 with h | h
    · exact HP2.out g (by rw [← h]; exact hg)
    · rw [hg] at h; have h := Option.some.inj h; (try simp at h); exact HPN.out g (by omega))
  clear nf T2 T1 C1 N1 ow2 ow3 R2 HB hg2 hat2 i1 i2 i3 j1 j2 j3 a0 a1 a2 a3 a4 a5 a6 a7 a8 p1 p2 p3 q1 q2 q3
  obtain ⟨i1, i2, i3, j1, j2, j3⟩ := T3.f3
  obtain ⟨B2', d2', rfl, hd2', hmx2', rd2'⟩ := own_rd ow2'
  have T4 := obox_set T3 1 (.slice B2' (m + 1) d2')
  have C4 : CBox (W2.setCell ⟨w.heap.size, 1, none⟩ (.slice B2' (m + 1) d2')) (w.heap.size + 1) c qv 57 := (Below.heap_setCell _ _ _ _ (by show _ ≠ _; simp)).trans C3
  have N4 : OBox (W2.setCell ⟨w.heap.size, 1, none⟩ (.slice B2' (m + 1) d2')) (w.heap.size + 2) _ 36 := (Below.heap_setCell _ _ _ _ (by show _ ≠ _; simp)).trans N3
  have ow2s := own_keep (w1 := W2.setCell ⟨w.heap.size, 1, none⟩ (.slice B2' (m + 1) d2')) ow2' (fun g hg => Below.heap_setCell _ _ _ _ (by show g ≠ w.heap.size; have := lv' g hg; omega))
  have ow3s := own_keep (w1 := W2.setCell ⟨w.heap.size, 1, none⟩ (.slice B2' (m + 1) d2')) ow3' (fun g hg => Below.heap_setCell _ _ _ _ (by show g ≠ w.heap.size; have := l3 g hg; omega))
  have R4 := R3.below ((Below.refl b1 W2).setCell (p := ⟨w.heap.size, 1, none⟩) (by show b1 ≤ w.heap.size; omega) (.slice B2' (m + 1) d2'))
  have HB4 := HB2.setCell (p := ⟨w.heap.size, 1, none⟩) (Nat.le_refl _) (.slice B2' (m + 1) d2')
  have z4 : Hid (W2.heap.size = (W2.setCell ⟨w.heap.size, 1, none⟩ (.slice B2' (m + 1) d2')).heap.size) := Lib.hid (by simp)
  have NM := below_new (w := W2.setCell ⟨w.heap.size, 1, none⟩ (.slice B2' (m + 1) d2')) (.cells #[.int .i64 (-1), .int .i64 c.d.k, .int .u64 c.d.b, .string c.d.t] 61)
  obtain ⟨a0, a1, a2, a3, a4, a5, a6, a7, a8⟩ := C4.c9
  obtain ⟨p1, p2, p3, q1, q2, q3⟩ := T4.f3
  obtain ⟨s1, s2, s3, u1, u2, u3⟩ := (T4.below NM).f3
  go_wp2_with (at_builtin; refine wpList_append_own_at _ rfl _ _ 34 rfl b2 61 iM (.agg #[.int .i64 0, .int .i64 0, .int .u64 0, .string ⟨#[]⟩]) 4 40 Tryz.underlying34 hiM hzM0 hzM1 hzM2 rfl (by decide) _ _ _ rfl (own_below ow3s NM) ⟨W2.heap.size, 0, none⟩ 1 1 [.int .i64 (-1), .int .i64 c.d.k, .int .u64 c.d.b, .string c.d.t] rfl rfl ?c1 ?c2 ?c3 ?c4 ?c5 ?_)
  case c1 => rw [z4.out]; exact news4 _ _ _ _ _ _
  case c2 => intro u hu; simp at hu; rcases hu with rfl | rfl | rfl | rfl <;> rfl
  case c3 => simp only [maxLen]; omega
  case c4 => omega
  case c5 => simp; omega
  intro v'' W5 ow3x hg5 _ hat5
  have T5 := (T4.below NM).grown hg5 (by intro e; have := l3 _ e.symm; omega)
  have N5 := (N4.below NM).grown hg5 (by intro e; have := l3 _ e.symm; omega)
  have ow2x := own_grown (own_below ow2s NM) hg5 (by intro g hg e; have h5 := lv' g hg; have h6 := own_base ow3s g e.symm; have h7 := l3 g e.symm; omega)
  have nmz : b1 ≤ (W2.setCell ⟨w.heap.size, 1, none⟩ (.slice B2' (m + 1) d2')).heap.size := by rw [← z4.out]; omega
  have R5 := (R4.below (NM.mono nmz)).grown hg5 (by have := NM.size; omega) (fun g hg => Nat.le_trans h1 (own_base ow3s g hg))
  have HB5 := (HB4.seq NM).grown hg5 (.inr rfl)
  have lw' : ∀ g, v''.ownBlock = some g → g < w.heap.size ∨ wM.heap.size < g := by
    intro g hg
    rcases hat5 with h | h
    · exact .inl (l3 g (by rw [← h]; exact hg))
    · rw [hg] at h; have h := Option.some.inj h; (try simp at h); right; omega
  have pw' : Hid (∀ g, v''.ownBlock = some g → P g) := Lib.hid (by
    intro g hg
    rcases hat5 with h | h
    · exact HP3.out g (by rw [← h]; exact hg)
    · rw [hg] at h; have h := Option.some.inj h; (try simp at h); exact HPN.out g (by omega))
  obtain ⟨B3', d3', rfl, hd3', hmx3', rd3'⟩ := own_rd ow3x
  clear i1 i2 i3 j1 j2 j3 a0 a1 a2 a3 a4 a5 a6 a7 a8 p1 p2 p3 q1 q2 q3 s1 s2 s3 u1 u2 u3
  obtain ⟨i1, i2, i3, j1, j2, j3⟩ := T5.f3
  obtain ⟨n1, n2, n3, o1, o2, o3⟩ := N5.f3
  go_wp2
  refine bodyPost_ret (v := .tuple #[.agg #[.slice B m d, .slice B2' (m + 1) d2', .slice B3' (m + 1) d3'], .int .i64 0]) (by simp [results, Tryz.results34, go_sem, *]; done) rfl ⟨_, _, _, _, _, _, _, _, _, rfl, fun _ => ?_, ?_⟩
  · refine own_TV (t := ⟨l, l ++ [c.g], kM m ++ [⟨-1, c.d⟩]⟩) HM.out (RdB.rd (R5.below ?_)) HP1.out (own_eq (own_keep ow2x fun g hg => ?_) rfl (by simp [cellsF])) (by simp [HM.out]) pv'.out (own_eq (own_keep ow3x fun g hg => ?_) rfl (by simp [cellsM])) (by simp [kM_length]) pw'.out
    · exact ((((Below.refl b1 W5).setCell (by show b1 ≤ w.heap.size; omega) _).setCell (by show b1 ≤ w.heap.size + 2; omega) _).setCell (by show b1 ≤ w.heap.size + 2; omega) _).setCell (by show b1 ≤ w.heap.size + 2; omega) _
    · have h := lv' g hg
      exact (Below.heap_setCell _ _ _ _ (by show g ≠ w.heap.size + 2; omega)).trans ((Below.heap_setCell _ _ _ _ (by show g ≠ w.heap.size + 2; omega)).trans ((Below.heap_setCell _ _ _ _ (by show g ≠ w.heap.size + 2; omega)).trans (Below.heap_setCell _ _ _ _ (by show g ≠ w.heap.size; omega))))
    · have h := lw' g hg
      exact (Below.heap_setCell _ _ _ _ (by show g ≠ w.heap.size + 2; omega)).trans ((Below.heap_setCell _ _ _ _ (by show g ≠ w.heap.size + 2; omega)).trans ((Below.heap_setCell _ _ _ _ (by show g ≠ w.heap.size + 2; omega)).trans (Below.heap_setCell _ _ _ _ (by show g ≠ w.heap.size; omega))))
  · exact (((HB5.setCell (Nat.le_refl _) _).setCell (by show w.heap.size ≤ w.heap.size + 2; omega) _).setCell (by show w.heap.size ≤ w.heap.size + 2; omega) _).setCell (by show w.heap.size ≤ w.heap.size + 2; omega) _
end Go.Proofs.YtehcpjodkadfnaaGreat
