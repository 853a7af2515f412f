/- Merged out of: Oh Oi Qh Qi Oj Ok Ol. -/
import Derived.Test.YtehcpjodkadfnaaGreatVg
import Derived.Test.YtehcpjodkadfnaaGreatVb
/- Layer 8 of the heap, changes: what the document makes of a change, another order. -/
set_option linter.unusedSimpArgs false
set_option linter.unusedVariables false
set_option maxRecDepth 100000
namespace Go.Proofs.YtehcpjodkadfnaaGreat
open Go.RowKit Go.Lib

theorem cellsM_from {l : List Mv} {k : Nat} {m : Mv} (hm : l[k]? = some m) (x : Int) : cellsM (l.set k ⟨x, m.d⟩) = (cellsM l).set (k * 4) (.int .i64 x) := by
  induction l generalizing k with
  | nil => simp at hm
  | cons a r ih =>
    have e : ∀ (y : Mv) (r : List Mv), cellsM (y :: r) = [.int .i64 y.f, .int .i64 y.d.k, .int .u64 y.d.b, .string y.d.t] ++ cellsM r := fun y r => by simp [cellsM]
    cases k with
    | zero => simp at hm; subst hm; rw [List.set_cons_zero, e, e]; rfl
    | succ k => rw [List.set_cons_succ, e, e, ih (by simpa using hm), show (k + 1) * 4 = k * 4 + 1 + 1 + 1 + 1 by omega]; rfl
theorem TO.setF {w W : World} {base ob gF n cF i : Nat} {xO vM : Value} {fs : List Fd} {ms : List Mv} {T TM : TypeId} (h : TO w W base ob xO (.slice (some ⟨gF, 0, none⟩) n cF) vM fs ms T TM) {f : Fd} (hf : fs[i]? = some f) (g : Fd) :
    TO w (((W.setCell ⟨gF, i * 3, none⟩ (.string g.s)).setCell ⟨gF, i * 3 + 1, none⟩ (.int .i64 g.k)).setCell ⟨gF, i * 3 + 2, none⟩ (.int .i64 g.l)) base ob xO (.slice (some ⟨gF, 0, none⟩) n cF) vM (fs.set i g) ms T TM ∧
    ∀ b, b < base → (((W.setCell ⟨gF, i * 3, none⟩ (.string g.s)).setCell ⟨gF, i * 3 + 1, none⟩ (.int .i64 g.k)).setCell ⟨gF, i * 3 + 2, none⟩ (.int .i64 g.l)).heap[b]? = W.heap[b]? := by
  obtain ⟨hn, _⟩ := own_slice h.F
  subst hn
  have hb := own_base h.F gF rfl
  have lo := h.lo
  have hob := h.hob
  have ks : ∀ b, b ≠ gF → (((W.setCell ⟨gF, i * 3, none⟩ (.string g.s)).setCell ⟨gF, i * 3 + 1, none⟩ (.int .i64 g.k)).setCell ⟨gF, i * 3 + 2, none⟩ (.int .i64 g.l)).heap[b]? = W.heap[b]? := fun b hne => (Below.heap_setCell _ _ _ _ hne).trans ((Below.heap_setCell _ _ _ _ hne).trans (Below.heap_setCell _ _ _ _ hne))
  refine ⟨⟨(ks _ (by omega)).trans h.O, ?_, own_keep h.M (fun k hk => ks k (by rintro rfl; exact h.ap k rfl hk)), h.ap, h.lo, ?_, h.hob⟩, fun b hlt => ks b (by omega)⟩
  · exact own_eq (own_set (own_set (own_set h.F _ _) _ _) _ _) (by simp) (cellsF_set fs i f g hf).symm
  · exact ((h.B.setCell (by show w.heap.size ≤ gF; omega) _).setCell (by show w.heap.size ≤ gF; omega) _).setCell (by show w.heap.size ≤ gF; omega) _
theorem TO.setM {w W : World} {base ob gM n cM i : Nat} {xO vF : Value} {fs : List Fd} {ms : List Mv} {T TM : TypeId} (h : TO w W base ob xO vF (.slice (some ⟨gM, 0, none⟩) n cM) fs ms T TM) {m : Mv} (hm : ms[i]? = some m) (x : Int) :
    TO w (W.setCell ⟨gM, i * 4, none⟩ (.int .i64 x)) base ob xO vF (.slice (some ⟨gM, 0, none⟩) n cM) fs (ms.set i ⟨x, m.d⟩) T TM ∧ ∀ b, b < base → (W.setCell ⟨gM, i * 4, none⟩ (.int .i64 x)).heap[b]? = W.heap[b]? := by
  obtain ⟨hn, _⟩ := own_slice h.M
  subst hn
  have hb := own_base h.M gM rfl
  have lo := h.lo
  have hob := h.hob
  have ks : ∀ b, b ≠ gM → (W.setCell ⟨gM, i * 4, none⟩ (.int .i64 x)).heap[b]? = W.heap[b]? := fun b hne => Below.heap_setCell _ _ _ _ hne
  refine ⟨⟨(ks _ (by omega)).trans h.O, own_keep h.F (fun k hk => ks k (by rintro rfl; exact h.ap k hk rfl)), ?_, h.ap, h.lo, h.B.setCell (by show w.heap.size ≤ gM; omega) _, h.hob⟩, fun b hlt => ks b (by omega)⟩
  exact own_eq (own_set h.M _ _) (by simp) (cellsM_from hm x).symm
theorem own_cells {w : World} {base n m K g c : Nat} {T : TypeId} {xs : List Value} (h : w.ownsRow base T K (.slice (some ⟨g, 0, none⟩) n c) m xs) : ∀ j u, xs[j]? = some u → w.cell? ⟨g, j, none⟩ = some u ∧ w.frozen? ⟨g, j, none⟩ = false := by
  intro j u hj
  rcases h.2 with ⟨e, _⟩ | ⟨g', c', cur, e, _, hg, _, _, _, ht⟩
  · cases e
  · obtain ⟨hn, _⟩ := own_slice h
    subst hn
    cases e
    refine ⟨?_, by simp [World.frozen?, hg]⟩
    rw [← ht, List.getElem?_take] at hj
    split at hj
    · simp only [World.cell?, hg]; simpa using hj
    · cases hj
theorem own_some_slice {w : World} {base n K : Nat} {T : TypeId} {v : Value} {xs : List Value} (h : w.ownsRow base T K v n xs) (hn : 0 < n) : ∃ g c, v = .slice (some ⟨g, 0, none⟩) n c := by
  obtain ⟨g, c, e, _⟩ := own_blk h hn
  exact ⟨g, c, e⟩
theorem set_mix {α : Type} {a b : List α} {i : Nat} {y : α} (ha : a.length = i) (x : α) (hy : b[i]? = some y) : (a ++ b.drop i).set i x = (a ++ [x]) ++ b.drop (i + 1) := by
  have hlt := (List.getElem?_eq_some_iff.1 hy).1
  rw [List.set_append_right _ _ (by omega), ha, Nat.sub_self, List.drop_eq_getElem_cons hlt, List.set_cons_zero]
  simp
theorem get_mix {α : Type} {a b : List α} {i : Nat} {y : α} (ha : a.length = i) (hy : b[i]? = some y) : (a ++ b.drop i)[i]? = some y := by
  rw [List.getElem?_append_right (by omega), ha, Nat.sub_self, List.getElem?_drop]; simpa using hy
end Go.Proofs.YtehcpjodkadfnaaGreat
/- Layer 8 of the heap, changes: what the document makes of any change. -/
set_option linter.unusedSimpArgs false
set_option linter.unusedVariables false
set_option maxRecDepth 100000
namespace Go.Proofs.YtehcpjodkadfnaaGreat
open Go.RowKit Go.Lib

end Go.Proofs.YtehcpjodkadfnaaGreat
/- Layer 7 of the heap, tables: two tables, one behind the other, as the document puts them together. -/
set_option linter.unusedSimpArgs false
set_option linter.unusedVariables false
set_option maxRecDepth 100000
namespace Go.Proofs.YtehcpjodkadfnaaGreat
open Go.RowKit Go.Lib

/-- what is handed back -/
def CoR (t : Tb) (code : Int) (w : World) (e : Ending) (w' : World) : Prop :=
  ∃ X0 z0 X1 z1 X2 z2, e = .returned (.tuple #[.agg #[.slice X0 t.o.length z0, .slice X1 t.n.length z1, .slice X2 t.m.length z2], .int .i64 code]) ∧ Rd w' X0 (cellsF t.o) ∧ Rd w' X1 (cellsF t.n) ∧ Rd w' X2 (cellsM t.m) ∧ Below w.heap.size w w'
end Go.Proofs.YtehcpjodkadfnaaGreat
/- Layer 7 of the heap, tables: two tables that meet, one behind the other, as the document puts them together. -/
set_option linter.unusedSimpArgs false
set_option linter.unusedVariables false
set_option maxRecDepth 100000
namespace Go.Proofs.YtehcpjodkadfnaaGreat
open Go.RowKit Go.Lib

theorem VBox3 {w : World} {b : Nat} {c : Vl} {T : TypeId} (h : OBox w b [.int .i64 c.k, .int .u64 c.b, .string c.t] T) : w.cell? ⟨b, 0, none⟩ = some (.int .i64 c.k) ∧ w.cell? ⟨b, 1, none⟩ = some (.int .u64 c.b) ∧ w.cell? ⟨b, 2, none⟩ = some (.string c.t) := ⟨h.cell rfl, h.cell rfl, h.cell rfl⟩
end Go.Proofs.YtehcpjodkadfnaaGreat
/- Layer 8 of the heap, changes: the new fields. -/
set_option linter.unusedSimpArgs false
set_option linter.unusedVariables false
set_option maxRecDepth 100000
namespace Go.Proofs.YtehcpjodkadfnaaGreat
open Go.RowKit Go.Lib

/-- what Apply hands back -/
def ApP (fs : List Fd) (code : Int) (w : World) (e : Ending) (w' : World) : Prop := ∃ B d, e = .returned (.tuple #[.slice B fs.length d, .int .i64 code]) ∧ fs.length ≤ d ∧ RdP (fun g => w.heap.size ≤ g) w' B (cellsF fs) ∧ Below w.heap.size w w'
set_option maxHeartbeats 1000000 in
theorem Apply_m (l : List Fd) (c : Ch) (m : Nat) (hm : l.length = m) (hl : m ≤ 9223372036854775807) (A : Option Addr) (cA : Nat) (hcA : m ≤ cA) (Q : Option Addr) (n qc : Nat) (hn : c.q.length = n) (hn1 : n ≤ 4398046511104) (hqc : n ≤ qc) (p0 : -9223372036854775808 ≤ c.op) (p1 : c.op ≤ 9223372036854775807) (x0 : 0 ≤ c.d.b) (x1 : c.d.b < 18446744073709551616) (w : World) (hA : Rd w A (cellsF l)) (RQ : Rd w Q (cellsI c.q)) :
    Calls Tryz.prog 18 #[.slice A m cA, .agg #[.int .i64 c.op, .string c.s, .string c.g.s, .int .i64 c.g.k, .int .i64 c.g.l, .int .i64 c.d.k, .int .u64 c.d.b, .string c.d.t, .slice Q n qc]] w fun e w' => ApP (makeT l c).n (makeE l c) w e w' := by
  have bb1 := below_new (w := w) (.cells #[.int .i64 c.op, .string c.s, .string c.g.s, .int .i64 c.g.k, .int .i64 c.g.l, .int .i64 c.d.k, .int .u64 c.d.b, .string c.d.t, .slice Q n qc] 57)
  have C : CBox _ _ c (.slice Q n qc) 57 := OBox.new w (chL c (.slice Q n qc)) 57
  have hA1 := hA.below bb1
  have RQ1 := RQ.below bb1
  obtain ⟨a0, a1, a2, a3, a4, a5, a6, a7, a8⟩ := C.c9
  obtain ⟨q, hq⟩ : ∃ q, makeE l c = q := ⟨_, rfl⟩
  obtain ⟨T, hT⟩ : ∃ T, makeT l c = T := ⟨_, rfl⟩
  have hmk := Make_m l c m hm hl A cA hcA Q n qc hn hn1 hqc p0 p1 x0 x1 _ hA1 RQ1
  rw [hq, hT] at hmk ⊢
  have HMK := Lib.hid hmk
  clear hmk hm hn hq hT
  go_enter Tryz.func18, Tryz.ntmps18
  go_wp2_with (go_at_call 17; refine HMK.out.mono ?_)
  rintro e W1 ⟨X0, y0, z0, X1, y1, z1, X2, y2, z2, rfl, hTV, hb⟩
  obtain ⟨_, _, _, _, _, _, ev, hd, R0, R1, R2⟩ := hTV
  cases ev
  have nb := below_new (w := W1) (.cells #[.slice X0 T.o.length z0, .slice X1 T.n.length z1, .slice X2 T.m.length z2] 36)
  have HB := bb1.trans ((hb.mono (by simp)).trans (nb.mono (by have := hb.size; simp at this; omega)))
  have hz := hb.size
  have R9 := (R1.lt.keep (fun g hg => nb.block g hg.2)).mono (Q := fun g => w.heap.size ≤ g) (fun g hg => by have h := hg.1; simp at h; omega)
  clear bb1 C hA1 RQ1 a0 a1 a2 a3 a4 a5 a6 a7 a8 R0 R1 R2 hb nb HMK
  go_wp2
  refine bodyPost_ret (v := .tuple #[.slice X1 T.n.length z1, .int .i64 q]) (by simp [results, Tryz.results18, go_sem, *]; done) rfl ⟨X1, z1, rfl, hd, R9, HB⟩
/-- rows of changes, as memory holds them -/
def cellsC (cs : List (Ch × Value)) : List Value := cs.flatMap fun p => chL p.1 p.2
theorem cellsC_get {cs : List (Ch × Value)} {i : Nat} {p : Ch × Value} (h : cs[i]? = some p) : ∀ j, j < 9 → (cellsC cs)[i * 9 + j]? = (chL p.1 p.2)[j]? := by
  induction cs generalizing i with
  | nil => simp at h
  | cons a r ih =>
    have e : cellsC (a :: r) = chL a.1 a.2 ++ cellsC r := by simp [cellsC]
    intro j hj
    cases i with
    | zero => simp at h; subst h; rw [e, Nat.zero_mul, Nat.zero_add, List.getElem?_append_left (by simp [chL]; omega)]
    | succ i => rw [e, List.getElem?_append_right (by simp [chL]; omega), show (i + 1) * 9 + j - (chL a.1 a.2).length = i * 9 + j by simp [chL]; omega]; exact ih (by simpa using h) j hj
/-- what a change points to -/
def ChO (w : World) (p : Ch × Value) : Prop := ∃ Q qc, p.2 = .slice Q p.1.q.length qc ∧ p.1.q.length ≤ qc ∧ qc ≤ maxLen ∧ Rd w Q (cellsI p.1.q)
theorem ChO.below {w w' : World} {p : Ch × Value} (h : ChO w p) (hb : Below w.heap.size w w') : ChO w' p := by
  obtain ⟨Q, qc, e, h1, h2, hr⟩ := h
  exact ⟨Q, qc, e, h1, h2, hr.below hb⟩
theorem Rd.ch {w : World} {A : Option Addr} {cs : List (Ch × Value)} (h : Rd w A (cellsC cs)) {k : Nat} {p : Ch × Value} (hp : cs[k]? = some p) : ∃ ad, A = some ad ∧ w.cell? (ad.add (k * 9)) = some (.int .i64 p.1.op) ∧ w.cell? ⟨(ad.add (k * 9)).block, (ad.add (k * 9)).off + (0 + 1), none⟩ = some (.string p.1.s) ∧ w.cell? ⟨(ad.add (k * 9)).block, (ad.add (k * 9)).off + (1 + 1), none⟩ = some (.string p.1.g.s) ∧
    w.cell? ⟨(ad.add (k * 9)).block, (ad.add (k * 9)).off + (2 + 1), none⟩ = some (.int .i64 p.1.g.k) ∧ w.cell? ⟨(ad.add (k * 9)).block, (ad.add (k * 9)).off + (3 + 1), none⟩ = some (.int .i64 p.1.g.l) ∧ w.cell? ⟨(ad.add (k * 9)).block, (ad.add (k * 9)).off + (4 + 1), none⟩ = some (.int .i64 p.1.d.k) ∧
    w.cell? ⟨(ad.add (k * 9)).block, (ad.add (k * 9)).off + (5 + 1), none⟩ = some (.int .u64 p.1.d.b) ∧ w.cell? ⟨(ad.add (k * 9)).block, (ad.add (k * 9)).off + (6 + 1), none⟩ = some (.string p.1.d.t) ∧ w.cell? ⟨(ad.add (k * 9)).block, (ad.add (k * 9)).off + (7 + 1), none⟩ = some p.2 := by
  have g := cellsC_get hp
  obtain ⟨ad, rfl, h0⟩ := h.at (j := k * 9 + 0) ((g 0 (by omega)).trans rfl)
  have key : ∀ j u, j + 1 < 9 → (chL p.1 p.2)[j + 1]? = some u → w.cell? ⟨(ad.add (k * 9)).block, (ad.add (k * 9)).off + (j + 1), none⟩ = some u := fun j u hj hu => by
    obtain ⟨_, e1, h1⟩ := h.at (j := k * 9 + (j + 1)) ((g (j + 1) hj).trans hu)
    cases e1
    rw [add_part _ _ j] at h1
    exact h1
  exact ⟨ad, rfl, h0, key 0 _ (by omega) rfl, key 1 _ (by omega) rfl, key 2 _ (by omega) rfl, key 3 _ (by omega) rfl, key 4 _ (by omega) rfl, key 5 _ (by omega) rfl, key 6 _ (by omega) rfl, key 7 _ (by omega) rfl⟩
end Go.Proofs.YtehcpjodkadfnaaGreat
/- Layer 8's law: are there few fields, and changes? -/
set_option linter.unusedSimpArgs false
set_option linter.unusedVariables false
set_option maxRecDepth 100000
namespace Go.Proofs.YtehcpjodkadfnaaGreat
open Go.RowKit Go.Lib

/-- a change's words are no longer than may be -/
def ChS (p : Ch × Value) : Prop := p.1.s.size ≤ 281474976710656 ∧ p.1.g.s.size ≤ 281474976710656 ∧ p.1.d.t.size ≤ 281474976710656 ∧ p.1.q.length ≤ 281474976710656
def FewC (l : List Fd) (cs : List (Ch × Value)) (w : World) (e : Ending) (w' : World) : Prop :=
  ∃ r : Bool, e = .returned (.bool r) ∧ (r = true → l.length ≤ 40 ∧ cs.length ≤ 30 ∧ ∀ p ∈ cs, p.1.q.length ≤ 2000) ∧ Below w.heap.size w w'
theorem all_take {cs : List (Ch × Value)} {j : Nat} {p : Ch × Value} {z y : Nat} (hp : cs[j]? = some p) (h : ∀ x ∈ cs.take j, x.1.q.length ≤ z) (hz : z ≤ y) (hy : p.1.q.length ≤ y) : ∀ x ∈ cs.take (j + 1), x.1.q.length ≤ y := by
  intro x hx
  rw [List.take_add_one, hp] at hx
  rcases List.mem_append.1 hx with hx | hx
  · have := h x hx; omega
  · simp at hx; subst hx; exact hy
set_option maxHeartbeats 2000000 in
theorem few_big (A : Option Addr) (cA : Nat) (l : List Fd) (K : Option Addr) (cK : Nat) (cs : List (Ch × Value)) (w : World) (hA : Rd w A (cellsF l)) (hK : Rd w K (cellsC cs)) (hc : ∀ p ∈ cs, ChO w p) (hl : l.length ≤ 9223372036854775807) (hk : cs.length ≤ 9223372036854775807) (hbig : 40 < l.length ∨ 30 < cs.length) :
    Calls Tryz.prog 4 #[.slice A l.length cA, .slice K cs.length cK] w (FewC l cs w) := by
  have y1 : (decide ((l.length : Int) ≤ 40) = false) ∨ (decide ((l.length : Int) ≤ 40) = true ∧ decide ((cs.length : Int) ≤ 30) = false) := by
    rcases hbig with h | h
    · exact .inl (by simp; omega)
    · by_cases h4 : l.length ≤ 40
      · exact .inr ⟨by simp; omega, by simp; omega⟩
      · exact .inl (by simp; omega)
  clear hbig
  go_enter Tryz.func4, Tryz.ntmps4
  go_wp2
  go_loopw [5, 7, 12] (fun n _ i wr => ∃ (j : Nat) (z : Int), j ≤ l.length ∧ i = .int .i64 j ∧ n = .int .i64 z ∧ Below w.heap.size w wr) (fun _ _ i _ => l.length - (intOf i).toNat)
  case atStart => exact ⟨0, 0, by omega, rfl, rfl, Below.refl _ _⟩
  case round =>
    obtain ⟨j, z, hj, rfl, rfl, HB⟩ := hrel
    have hAr := hA.below HB
    by_cases hlt : j < l.length
    · obtain ⟨f, hf⟩ : ∃ f, l[j]? = some f := ⟨_, List.getElem?_eq_getElem hlt⟩
      obtain ⟨ad, rfl, c0, c1, c2⟩ := hAr.fld hf
      clear hAr hf
      go_wp2
      go_roundw
      case rel => exact ⟨j + 1, _, by omega, by go_num, rfl, HB.alloc HB.size _⟩
      case measure => simp [intOf]; omega
    · obtain rfl : j = l.length := by omega
      have HB0 := HB
      clear hAr HB
      go_wp2
      go_loopw [5, 9, 24] (fun n _ i wx => ∃ (j : Nat) (z : Int), j ≤ cs.length ∧ i = .int .i64 j ∧ n = .int .i64 z ∧ Below w.heap.size w wx) (fun _ _ i _ => cs.length - (intOf i).toNat)
      case atStart => exact ⟨0, z, by omega, rfl, rfl, HB0⟩
      case round =>
        obtain ⟨j, z, hj, rfl, rfl, HB⟩ := hrel
        clear HB0
        have hKr := hK.below HB
        by_cases hlt : j < cs.length
        · obtain ⟨p, hp⟩ : ∃ p, cs[j]? = some p := ⟨_, List.getElem?_eq_getElem hlt⟩
          obtain ⟨Q, qc, eq, hq1, hq2, hq⟩ := hc p (List.mem_of_getElem? hp)
          obtain ⟨ad, rfl, c0, c1, c2, c3, c4, c5, c6, c7, c8⟩ := hKr.ch hp
          rw [eq] at c8
          clear hKr hp eq hq
          go_wp2
          go_roundw
          case rel => exact ⟨j + 1, _, by omega, by go_num, rfl, HB.alloc HB.size _⟩
          case measure => simp [intOf]; omega
        · obtain rfl : j = cs.length := by omega
          clear hKr
          rcases y1 with y1 | ⟨y1, y2⟩
          · go_wp2
            go_ret
            exact ⟨false, rfl, fun h => (by cases h), HB⟩
          · go_wp2
            go_ret
            exact ⟨false, rfl, fun h => (by cases h), HB⟩
set_option maxHeartbeats 2000000 in
theorem few_small (A : Option Addr) (cA : Nat) (l : List Fd) (K : Option Addr) (cK : Nat) (cs : List (Ch × Value)) (w : World) (hA : Rd w A (cellsF l)) (hK : Rd w K (cellsC cs)) (hc : ∀ p ∈ cs, ChO w p) (hs : ∀ f ∈ l, f.s.size ≤ 281474976710656) (hcs : ∀ p ∈ cs, ChS p) (hl : l.length ≤ 40) (hk : cs.length ≤ 30) :
    Calls Tryz.prog 4 #[.slice A l.length cA, .slice K cs.length cK] w (FewC l cs w) := by
  have y1 : decide ((l.length : Int) ≤ 40) = true := by simp; omega
  have y2 : decide ((cs.length : Int) ≤ 30) = true := by simp; omega
  go_enter Tryz.func4, Tryz.ntmps4
  go_wp2
  go_loopw [5, 7, 12] (fun n _ i wr => ∃ (j z : Nat), j ≤ l.length ∧ i = .int .i64 j ∧ n = .int .i64 z ∧ z ≤ j * 281474976710656 ∧ Below w.heap.size w wr) (fun _ _ i _ => l.length - (intOf i).toNat)
  case atStart => exact ⟨0, 0, by omega, rfl, rfl, by omega, Below.refl _ _⟩
  case round =>
    obtain ⟨j, z, hj, rfl, rfl, hz, HB⟩ := hrel
    have hAr := hA.below HB
    by_cases hlt : j < l.length
    · obtain ⟨f, hf⟩ : ∃ f, l[j]? = some f := ⟨_, List.getElem?_eq_getElem hlt⟩
      obtain ⟨ad, rfl, c0, c1, c2⟩ := hAr.fld hf
      have hfs := hs f (List.mem_of_getElem? hf)
      clear hAr hf
      go_wp2
      go_roundw
      case rel => exact ⟨j + 1, z + f.s.size, by omega, by go_num, by go_num, by omega, HB.alloc HB.size _⟩
      case measure => simp [intOf]; omega
    · obtain rfl : j = l.length := by omega
      have hz0 : z ≤ 40 * 281474976710656 := Nat.le_trans hz (Nat.mul_le_mul_right _ hl)
      have HB0 := HB
      clear hAr HB
      go_wp2
      go_loopw [5, 9, 24] (fun n _ i wx => ∃ (j z : Nat), j ≤ cs.length ∧ i = .int .i64 j ∧ n = .int .i64 z ∧ z ≤ (40 + 4 * j) * 281474976710656 ∧ Hid (∀ x ∈ cs.take j, x.1.q.length ≤ z) ∧ Below w.heap.size w wx) (fun _ _ i _ => cs.length - (intOf i).toNat)
      case atStart =>
        refine ⟨0, z, Nat.zero_le _, ?_, ?_, ?_, Lib.hid (by simp), HB0⟩
        · rfl
        · rfl
        · exact hz0
      case round =>
        obtain ⟨j, z, hj, rfl, rfl, hz, hall, HB⟩ := hrel
        clear HB0
        have hKr := hK.below HB
        by_cases hlt : j < cs.length
        · obtain ⟨p, hp⟩ : ∃ p, cs[j]? = some p := ⟨_, List.getElem?_eq_getElem hlt⟩
          obtain ⟨Q, qc, eq, hq1, hq2, hq⟩ := hc p (List.mem_of_getElem? hp)
          obtain ⟨s0, s1, s2, s3⟩ := hcs p (List.mem_of_getElem? hp)
          obtain ⟨ad, rfl, c0, c1, c2, c3, c4, c5, c6, c7, c8⟩ := hKr.ch hp
          rw [eq] at c8
          have hall2 : Hid (∀ x ∈ cs.take (j + 1), x.1.q.length ≤ z + (p.1.s.size + p.1.g.s.size + p.1.d.t.size + p.1.q.length)) := Lib.hid (all_take hp hall.out (by omega) (by omega))
          clear hKr hp eq hq hall
          go_wp2
          go_roundw
          case rel => exact ⟨j + 1, z + (p.1.s.size + p.1.g.s.size + p.1.d.t.size + p.1.q.length), by omega, by go_num, by go_num, by omega, hall2, HB.alloc HB.size _⟩
          case measure => simp [intOf]; omega
        · obtain rfl : j = cs.length := by omega
          have hq : Hid (∀ x ∈ cs, x.1.q.length ≤ z) := Lib.hid (fun x hx => hall.out x (by rw [List.take_of_length_le (Nat.le_refl _)]; exact hx))
          clear hKr hall
          by_cases hz2 : z ≤ 2000
          · have y3 : decide ((z : Int) ≤ 2000) = true := by simp; omega
            go_wp2
            go_ret
            exact ⟨true, rfl, fun _ => ⟨hl, hk, fun x hx => Nat.le_trans (hq.out x hx) hz2⟩, HB⟩
          · have y3 : decide ((z : Int) ≤ 2000) = false := by simp; omega
            go_wp2
            go_ret
            exact ⟨false, rfl, fun h => (by cases h), HB⟩
theorem few_m (A : Option Addr) (cA : Nat) (l : List Fd) (m : Nat) (hm : l.length = m) (K : Option Addr) (cK : Nat) (cs : List (Ch × Value)) (nc : Nat) (hnc : cs.length = nc) (w : World) (hA : Rd w A (cellsF l)) (hK : Rd w K (cellsC cs)) (hc : ∀ p ∈ cs, ChO w p) (hs : ∀ f ∈ l, f.s.size ≤ 281474976710656) (hcs : ∀ p ∈ cs, ChS p) (hl : m ≤ 9223372036854775807) (hk : nc ≤ 9223372036854775807) :
    Calls Tryz.prog 4 #[.slice A m cA, .slice K nc cK] w (FewC l cs w) := by
  subst hm hnc
  by_cases h : 40 < l.length ∨ 30 < cs.length
  · exact few_big A cA l K cK cs w hA hK hc hl hk h
  · exact few_small A cA l K cK cs w hA hK hc hs hcs (by omega) (by omega)
end Go.Proofs.YtehcpjodkadfnaaGreat
/- Layer 8's law: its example. -/
set_option linter.unusedSimpArgs false
set_option linter.unusedVariables false
set_option maxRecDepth 100000
namespace Go.Proofs.YtehcpjodkadfnaaGreat
open Go.RowKit Go.Lib

def L1 : List Fd := [⟨⟨#[97]⟩, 1, 0⟩]
def c1 : Ch := ⟨4, ⟨#[97]⟩, ⟨⟨#[]⟩, 2, 0⟩, ⟨0, 0, ⟨#[]⟩⟩, []⟩
def c2 : Ch := ⟨4, ⟨#[97]⟩, ⟨⟨#[]⟩, 5, 0⟩, ⟨0, 0, ⟨#[]⟩⟩, []⟩
def c3 : Ch := ⟨3, ⟨#[97]⟩, ⟨⟨#[98]⟩, 0, 0⟩, ⟨0, 0, ⟨#[]⟩⟩, []⟩
theorem ca1 : makeE L1 c1 = 0 := by decide +kernel
theorem ca2 : (makeT L1 c1).n = [⟨⟨#[97]⟩, 2, 0⟩] := by decide +kernel
theorem ca3 : (makeT L1 c1).m = [⟨0, Vl.z⟩] := by decide +kernel
theorem ca4 : makeE L1 c2 = 80 := by decide +kernel
theorem ca5 : makeE L1 c3 = 0 := by decide +kernel
theorem ca6 : (makeT L1 c3).n = [⟨⟨#[98]⟩, 1, 0⟩] := by decide +kernel
theorem mk1 (A : Option Addr) (w : World) (hA : Rd w A (cellsF L1)) :
    Calls Tryz.prog 17 #[.slice A 1 1, .agg #[.int .i64 4, .string ⟨#[97]⟩, .string ⟨#[]⟩, .int .i64 2, .int .i64 0, .int .i64 0, .int .u64 0, .string ⟨#[]⟩, .slice none 0 0]] w fun e w' =>
      ∃ X0 y0 z0 X1 z1 X2 z2, e = .returned (.tuple #[.agg #[.slice X0 y0 z0, .slice X1 1 z1, .slice X2 1 z2], .int .i64 0]) ∧ Rd w' X1 (cellsF [⟨⟨#[97]⟩, 2, 0⟩]) ∧ Rd w' X2 (cellsM [⟨0, Vl.z⟩]) ∧ Below w.heap.size w w' := by
  refine (Make_m L1 c1 1 rfl (by omega) A 1 (by omega) none 0 0 rfl (by omega) (by omega) (by decide) (by decide) (by decide) (by decide) w hA (Rd.nil _ _)).mono ?_
  rintro e w' ⟨X0, y0, z0, X1, y1, z1, X2, y2, z2, rfl, ⟨_, _, _, _, _, _, ev, _, _, R1, R2⟩, hb⟩
  rw [ca2] at ev R1
  rw [ca3] at ev R2
  rw [ca1]
  simp at ev
  obtain ⟨⟨rfl, rfl, rfl⟩, ⟨rfl, rfl, rfl⟩, rfl, rfl, rfl⟩ := ev
  exact ⟨_, _, _, _, _, _, _, rfl, R1.rd, R2.rd, hb⟩
theorem mk2 (A : Option Addr) (w : World) (hA : Rd w A (cellsF L1)) :
    Calls Tryz.prog 17 #[.slice A 1 1, .agg #[.int .i64 4, .string ⟨#[97]⟩, .string ⟨#[]⟩, .int .i64 5, .int .i64 0, .int .i64 0, .int .u64 0, .string ⟨#[]⟩, .slice none 0 0]] w fun e w' =>
      ∃ X0 y0 z0 X1 y1 z1 X2 y2 z2, e = .returned (.tuple #[.agg #[.slice X0 y0 z0, .slice X1 y1 z1, .slice X2 y2 z2], .int .i64 80]) ∧ Below w.heap.size w w' := by
  refine (Make_m L1 c2 1 rfl (by omega) A 1 (by omega) none 0 0 rfl (by omega) (by omega) (by decide) (by decide) (by decide) (by decide) w hA (Rd.nil _ _)).mono ?_
  rintro e w' ⟨X0, y0, z0, X1, y1, z1, X2, y2, z2, rfl, _, hb⟩
  rw [ca4]
  exact ⟨_, _, _, _, _, _, _, _, _, rfl, hb⟩
theorem mk3 (A : Option Addr) (w : World) (hA : Rd w A (cellsF L1)) :
    Calls Tryz.prog 18 #[.slice A 1 1, .agg #[.int .i64 3, .string ⟨#[97]⟩, .string ⟨#[98]⟩, .int .i64 0, .int .i64 0, .int .i64 0, .int .u64 0, .string ⟨#[]⟩, .slice none 0 0]] w fun e w' =>
      ∃ B d, e = .returned (.tuple #[.slice B 1 d, .int .i64 0]) ∧ Rd w' B (cellsF [⟨⟨#[98]⟩, 1, 0⟩]) ∧ Below w.heap.size w w' := by
  refine (Apply_m L1 c3 1 rfl (by omega) A 1 (by omega) none 0 0 rfl (by omega) (by omega) (by decide) (by decide) (by decide) (by decide) w hA (Rd.nil _ _)).mono ?_
  rintro e w' ⟨B, d, rfl, _, R, hb⟩
  rw [ca6] at R ⊢
  rw [ca5]
  exact ⟨B, d, rfl, R.rd, hb⟩
set_option maxHeartbeats 4000000 in
theorem alive_calls8 (w : World) : Calls Tryz.prog 6 #[] w fun e w' => e = .returned (.bool true) ∧ Below w.heap.size w w' := by
  have hR : Rd (w.alloc (.cells (cellsF L1).toArray 29)) (some ⟨w.heap.size, 0, none⟩) (cellsF L1) := rd_new _ _ _
  have HB : Below w.heap.size w (w.alloc (.cells (cellsF L1).toArray 29)) := below_new _
  have tok1 := True.intro
  go_enter Tryz.func6, Tryz.ntmps6
  go_wp2_with (first
    | (have _t := tok1; go_at_call 17; refine (mk1 _ _ hR).mono ?_; rintro e w1 ⟨X0, y0, z0, X1, z1, X2, z2, rfl, r1, r2, hb⟩; have nb := below_new (w := w1) (.cells #[.slice X0 y0 z0, .slice X1 1 z1, .slice X2 1 z2] 36); have T1 := TBox.new w1 (.slice X0 y0 z0) (.slice X1 1 z1) (.slice X2 1 z2) 36; replace hR := (hR.below hb).below nb; replace HB := (HB.trans (hb.mono HB.size)).trans (nb.mono (by have := HB.size; have := hb.size; omega)); replace r1 := r1.below nb; replace r2 := r2.below nb; clear hb nb tok1; have tok2 := True.intro)
    | (have _t := tok2; go_at_call 17; refine (mk2 _ _ hR).mono ?_; rintro e w2 ⟨Y0, y1, y2, Y1, y3, y4, Y2, y5, y6, rfl, hb⟩; have nb := below_new (w := w2) (.cells #[.slice Y0 y1 y2, .slice Y1 y3 y4, .slice Y2 y5 y6] 36); replace hR := (hR.below hb).below nb; replace HB := (HB.trans (hb.mono HB.size)).trans (nb.mono (by have := HB.size; have := hb.size; omega)); replace r1 := (r1.below hb).below nb; replace r2 := (r2.below hb).below nb; replace T1 := (T1.below hb).below nb; clear hb nb tok2)
    | (go_at_call 18; refine (mk3 _ _ hR).mono ?_; rintro e w3 ⟨Bn, dn, rfl, r3, hb⟩; replace HB := HB.trans (hb.mono HB.size); replace r1 := r1.below hb; replace r2 := r2.below hb; replace T1 := T1.below hb; clear hb hR; obtain ⟨t0, t1, t2⟩ := id T1; obtain ⟨ad1, rfl, f0, f1, f2⟩ := r1.fld (k := 0) rfl; obtain ⟨ad2, rfl, m0, m1, m2, m3⟩ := r2.mv (k := 0) rfl; obtain ⟨ad3, rfl, b0, b1, b2⟩ := r3.fld (k := 0) rfl; simp only [Nat.zero_mul] at f0 f1 f2 m0 m1 m2 m3 b0 b1 b2; have g1 := f1; have g2 := f2; have n1 := m1; have n2 := m2; have n3 := m3; simp only [Nat.zero_add, Nat.reduceAdd] at g1 g2 n1 n2 n3; simp only [Addr.add_zero', Vl.z] at f0 g1 g2 m0 n1 n2 n3 b0))
  go_ret
  exact ⟨rfl, HB⟩
end Go.Proofs.YtehcpjodkadfnaaGreat
