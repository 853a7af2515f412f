/- Merged out of: Oj Ok Sa Qf Qg Ol Qj Qs. -/
import Derived.Test.YteembinfgbapgaaGreatM19
import Derived.Test.YteembinfgbapgaaGreatM01
import Derived.Test.YteembinfgbapgaaGreatM07
import Derived.Deep.Slices
import Derived.ChangeSame
import Derived.Test.YteembinfgbapgaaGreatM15
import Derived.Deep.RegionHeld3
/- Layer 8 of the heap, changes: the new fields. -/
set_option linter.unusedSimpArgs false
set_option linter.unusedVariables false
set_option maxRecDepth 100000
namespace Go.Proofs.YteembinfgbapgaaGreat
open Go.RowKit Go.Lib

/-- rows of changes, as memory holds them -/
def cellsC (cs : List (Ch × Value)) : List Value := cs.flatMap fun p => chL p.1 p.2
theorem cellsC_get {cs : List (Ch × Value)} {i : Nat} {p : Ch × Value} (h : cs[i]? = some p) : ∀ j, j < 9 → (cellsC cs)[i * 9 + j]? = (chL p.1 p.2)[j]? := by
  induction cs generalizing i with
  | nil => simp at h
  | cons a r ih =>
    have e : cellsC (a :: r) = chL a.1 a.2 ++ cellsC r := by simp [cellsC]
    intro j hj
    cases i with
    | zero => simp at h; subst h; rw [e, Nat.zero_mul, Nat.zero_add, List.getElem?_append_left (by simp [chL]; omega)]
    | succ i => rw [e, List.getElem?_append_right (by simp [chL]; omega), show (i + 1) * 9 + j - (chL a.1 a.2).length = i * 9 + j by simp [chL]; omega]; exact ih (by simpa using h) j hj
/-- what a change points to -/
def ChO (w : World) (p : Ch × Value) : Prop := ∃ Q qc, p.2 = .slice Q p.1.q.length qc ∧ p.1.q.length ≤ qc ∧ qc ≤ maxLen ∧ Rd w Q (cellsI p.1.q)
theorem ChO.below {w w' : World} {p : Ch × Value} (h : ChO w p) (hb : Below w.heap.size w w') : ChO w' p := by
  obtain ⟨Q, qc, e, h1, h2, hr⟩ := h
  exact ⟨Q, qc, e, h1, h2, hr.below hb⟩
theorem Rd.ch {w : World} {A : Option Addr} {cs : List (Ch × Value)} (h : Rd w A (cellsC cs)) {k : Nat} {p : Ch × Value} (hp : cs[k]? = some p) : ∃ ad, A = some ad ∧ w.cell? (ad.add (k * 9)) = some (.int .i64 p.1.op) ∧ w.cell? ⟨(ad.add (k * 9)).block, (ad.add (k * 9)).off + (0 + 1), none⟩ = some (.string p.1.s) ∧ w.cell? ⟨(ad.add (k * 9)).block, (ad.add (k * 9)).off + (1 + 1), none⟩ = some (.string p.1.g.s) ∧
    w.cell? ⟨(ad.add (k * 9)).block, (ad.add (k * 9)).off + (2 + 1), none⟩ = some (.int .i64 p.1.g.k) ∧ w.cell? ⟨(ad.add (k * 9)).block, (ad.add (k * 9)).off + (3 + 1), none⟩ = some (.int .i64 p.1.g.l) ∧ w.cell? ⟨(ad.add (k * 9)).block, (ad.add (k * 9)).off + (4 + 1), none⟩ = some (.int .i64 p.1.d.k) ∧
    w.cell? ⟨(ad.add (k * 9)).block, (ad.add (k * 9)).off + (5 + 1), none⟩ = some (.int .u64 p.1.d.b) ∧ w.cell? ⟨(ad.add (k * 9)).block, (ad.add (k * 9)).off + (6 + 1), none⟩ = some (.string p.1.d.t) ∧ w.cell? ⟨(ad.add (k * 9)).block, (ad.add (k * 9)).off + (7 + 1), none⟩ = some p.2 := by
  have g := cellsC_get hp
  obtain ⟨ad, rfl, h0⟩ := h.at (j := k * 9 + 0) ((g 0 (by omega)).trans rfl)
  have key : ∀ j u, j + 1 < 9 → (chL p.1 p.2)[j + 1]? = some u → w.cell? ⟨(ad.add (k * 9)).block, (ad.add (k * 9)).off + (j + 1), none⟩ = some u := fun j u hj hu => by
    obtain ⟨_, e1, h1⟩ := h.at (j := k * 9 + (j + 1)) ((g (j + 1) hj).trans hu)
    cases e1
    rw [add_part _ _ j] at h1
    exact h1
  exact ⟨ad, rfl, h0, key 0 _ (by omega) rfl, key 1 _ (by omega) rfl, key 2 _ (by omega) rfl, key 3 _ (by omega) rfl, key 4 _ (by omega) rfl, key 5 _ (by omega) rfl, key 6 _ (by omega) rfl, key 7 _ (by omega) rfl⟩
end Go.Proofs.YteembinfgbapgaaGreat
/- Layer 8's law: are there few fields, and changes? -/
set_option linter.unusedSimpArgs false
set_option linter.unusedVariables false
set_option maxRecDepth 100000
namespace Go.Proofs.YteembinfgbapgaaGreat
open Go.RowKit Go.Lib

/-- a change's words are no longer than may be -/
def ChS (p : Ch × Value) : Prop := p.1.s.size ≤ 281474976710656 ∧ p.1.g.s.size ≤ 281474976710656 ∧ p.1.d.t.size ≤ 281474976710656 ∧ p.1.q.length ≤ 17592186044415
end Go.Proofs.YteembinfgbapgaaGreat
/- Arguments of laws, opened with their sizes: fields, values, rows of numbers, changes, rows of them. -/
set_option linter.unusedSimpArgs false
set_option linter.unusedVariables false
set_option maxRecDepth 100000
namespace Go.Proofs.YteembinfgbapgaaGreat
open Go.ChangeShapes Go.WideShapes Go.ChangeAt Go.RowKit Go.Joins Go.Deep
open Go.ChangeMaps (open_string shut_string)

/-- all that stands in a datum is no longer than memory reaches -/
def SzT {H : Type} (t : TypeId) (d : DataW H) : Prop := ∀ n ∈ DataW.weights Tryz.prog t d, n ≤ reachBytes
theorem SzT.of {H : Type} {ts : List TypeId} {ds : List (DataW H)} (h : (DataW.weightsEach Tryz.prog ts ds).all (· ≤ reachBytes) = true) {j : Nat} {t : TypeId} {d : DataW H} (ht : ts[j]? = some t) (hd : ds[j]? = some d) : SzT t d := fun n hn => by
  have := List.all_eq_true.1 h _ (DataW.weights_mem_each ht hd n hn)
  simpa using this
theorem weightsAll_in {H : Type} {e : TypeId} : ∀ {l : List (DataW H)} {d : DataW H}, d ∈ l → ∀ n ∈ DataW.weights Tryz.prog e d, n ∈ DataW.weightsAll Tryz.prog e l
  | d' :: r, d, hd, n, hn => by
    simp only [DataW.weightsAll, List.mem_append]
    rcases List.mem_cons.1 hd with rfl | h
    · exact Or.inl hn
    · exact Or.inr (weightsAll_in h n hn)
theorem SzT.part {H : Type} {t t1 : TypeId} {fs : Array Field} {ps : List (DataW H)} {j : Nat} {f : Field} {d : DataW H} (h : SzT t (.agg ps)) (hu : Tryz.prog.underlying t = some (.struct fs)) (hf : fs[j]? = some f) (ht : f.type = t1) (hd : ps[j]? = some d) : SzT t1 d := fun n hn => by
  refine h n ?_
  simp only [DataW.weights, hu]
  refine DataW.weights_mem_each (j := j) (t := t1) ?_ hd n hn
  rw [List.getElem?_map, Array.getElem?_toList, hf, ← ht]
  rfl
theorem SzT.elem {H : Type} {t e : TypeId} {l sp : List (DataW H)} {d : DataW H} (h : SzT t (.slice l sp)) (hu : Tryz.prog.underlying t = some (.slice e)) (hd : d ∈ l) : SzT e d := fun n hn => by
  refine h n ?_
  simp only [DataW.weights, hu, List.mem_cons, List.mem_append]
  exact .inr (.inl (weightsAll_in hd n hn))
theorem SzT.len {H : Type} {t e : TypeId} {l sp : List (DataW H)} (h : SzT t (.slice l sp)) (hu : Tryz.prog.underlying t = some (.slice e)) (hb : 1 ≤ Tryz.prog.bytesOf e) : l.length ≤ reachBytes := by
  have h1 : (l.length + sp.length) * Tryz.prog.bytesOf e ≤ reachBytes := h _ (by simp only [DataW.weights, hu, List.mem_cons, true_or])
  have : l.length + sp.length ≤ (l.length + sp.length) * Tryz.prog.bytesOf e := Nat.le_mul_of_pos_right _ hb
  omega
theorem SzT.lenB {H : Type} {t e : TypeId} {l sp : List (DataW H)} (h : SzT t (.slice l sp)) (hu : Tryz.prog.underlying t = some (.slice e)) : l.length * Tryz.prog.bytesOf e ≤ reachBytes := by
  have h1 : (l.length + sp.length) * Tryz.prog.bytesOf e ≤ reachBytes := h _ (by simp only [DataW.weights, hu, List.mem_cons, true_or])
  have : l.length * Tryz.prog.bytesOf e ≤ (l.length + sp.length) * Tryz.prog.bytesOf e := Nat.mul_le_mul_right _ (by omega)
  omega
theorem SzT.str {H : Type} {t : TypeId} {s : ByteArray} (h : SzT (H := H) t (.lit (.string s.data.toList))) : s.size ≤ reachBytes := by
  have := h s.data.toList.length (by simp [DataW.weights])
  simpa using this
theorem reach48 {n : Nat} (h : n ≤ reachBytes) : n ≤ 281474976710656 := by
  have := reachBytes_lt
  omega

section
variable {H : Type} {enc : TypeId × Value → H} {w : World} {base b0 : Nat} {r : Reach} {spare : Nat → Bool} {held : Bool} {v : Value} {d : DataW H} {p : List MemPlace}

theorem elem_fld {n : Nat} {cs : List Value} {x : DataW H × List MemPlace} (h : DataW.trod enc Tryz.prog w base spare held n 68 cs = some x) :
    ∃ f : Fd, cs = [.string f.s, .int .i64 f.k, .int .i64 f.l] ∧ f.s.size ≤ maxLen ∧ (SzT 68 x.1 → f.s.size ≤ 281474976710656) := by
  obtain ⟨y0, y1, y2, m, rfl, hl, h0, h1, h2⟩ := trod_struct3 Tryz.underlying68 h
  have c3 : Tryz.prog.cellsOf 68 = 3 := by kernel_rfl
  have k0 : Tryz.prog.cellsOf 9 = 1 := by kernel_rfl
  have k1 : Tryz.prog.cellsOf 3 = 1 := by kernel_rfl
  rw [c3] at hl
  obtain ⟨c0, c1, c2, rfl⟩ : ∃ a b c, cs = [a, b, c] := by
    match cs, hl with
    | [a, b, c], _ => exact ⟨a, b, c, rfl⟩
  simp only [k0, k1] at h0 h1 h2
  obtain ⟨s, e0, e3, w0⟩ := DataW.trod_string Tryz.underlying9 h0
  obtain ⟨k, e1, _, w1⟩ := DataW.trod_int Tryz.underlying3 h1
  obtain ⟨l, e2, _, w2⟩ := DataW.trod_int Tryz.underlying3 h2
  simp at e0 e1 e2
  subst e0 e1 e2
  refine ⟨⟨s, k, l⟩, rfl, w0, fun hz => reach48 ?_⟩
  subst e3
  exact (hz.part Tryz.underlying68 (j := 0) rfl rfl rfl).str
theorem elem_val {n : Nat} {cs : List Value} {x : DataW H × List MemPlace} (h : DataW.trod enc Tryz.prog w base spare held n 71 cs = some x) :
    ∃ f : Vl, cs = [.int .i64 f.k, .int .u64 f.b, .string f.t] ∧ (0 ≤ f.b ∧ f.b < 18446744073709551616) ∧ (SzT 71 x.1 → f.t.size ≤ 281474976710656) := by
  obtain ⟨y0, y1, y2, m, rfl, hl, h0, h1, h2⟩ := trod_struct3 Tryz.underlying71 h
  have c3 : Tryz.prog.cellsOf 71 = 3 := by kernel_rfl
  have k0 : Tryz.prog.cellsOf 9 = 1 := by kernel_rfl
  have k1 : Tryz.prog.cellsOf 3 = 1 := by kernel_rfl
  have k2 : Tryz.prog.cellsOf 69 = 1 := by kernel_rfl
  rw [c3] at hl
  obtain ⟨c0, c1, c2, rfl⟩ : ∃ a b c, cs = [a, b, c] := by
    match cs, hl with
    | [a, b, c], _ => exact ⟨a, b, c, rfl⟩
  simp only [k0, k1, k2] at h0 h1 h2
  obtain ⟨k, e0, _, w0⟩ := DataW.trod_int Tryz.underlying3 h0
  obtain ⟨b, e1, _, w1⟩ := DataW.trod_int Tryz.underlying69 h1
  obtain ⟨s, e2, e3, w2⟩ := DataW.trod_string Tryz.underlying9 h2
  simp at e0 e1 e2
  subst e0 e1 e2
  refine ⟨⟨k, b, s⟩, rfl, wf_u64 w1, fun hz => reach48 ?_⟩
  subst e3
  exact (hz.part Tryz.underlying71 (j := 2) rfl rfl rfl).str
theorem elem_ints {n : Nat} {cs : List Value} {x : DataW H × List MemPlace} (h : DataW.trod enc Tryz.prog w base spare held n 29 cs = some x) :
    ∃ Q q qc, cs = [.slice Q q.length qc] ∧ q.length ≤ qc ∧ qc ≤ maxLen ∧ Rd w Q (cellsI q) ∧ (SzT 29 x.1 → q.length ≤ 17592186044415) := by
  rcases open_ints Tryz.underlying29 Tryz.underlying3 (by kernel_rfl) h with ⟨hcs, _⟩ | ⟨a, l, c, zs, hcs, _, hl, hm, hz, hx, hcell, hwz⟩
  · exact ⟨none, [], 0, hcs, Nat.le_refl _, Nat.zero_le _, Rd.nil _ _, fun _ => Nat.zero_le _⟩
  · have hzl : l ≤ zs.length := by rw [hz]; split <;> omega
    have hlen : (zs.take l).length = l := by rw [List.length_take]; omega
    refine ⟨some a, zs.take l, c, by rw [hlen]; exact hcs, by rw [hlen]; exact hl, hm, fun _ => ⟨a, rfl, fun j u hj => ?_⟩, fun hs => ?_⟩
    · have hjl : j < l := by
        rcases Nat.lt_or_ge j l with h' | h'
        · exact h'
        · rw [List.getElem?_eq_none (by rw [cellsI_length, hlen]; exact h')] at hj; cases hj
      have hjz : j < zs.length := by omega
      rw [hcell j hjz]
      simp only [cellsI, List.getElem?_map, List.getElem?_take, if_pos hjl, List.getElem?_eq_getElem hjz, Option.map_some, Option.some.injEq] at hj
      rw [← hj]
      simp [List.getD_eq_getElem?_getD, List.getElem?_eq_getElem hjz]
    · subst hx
      have h8 : Tryz.prog.bytesOf 3 = 8 := by kernel_rfl
      have := hs.lenB Tryz.underlying29
      rw [h8] at this
      have hr := reachBytes_lt
      simp [lits] at this
      rw [hlen]
      simp at hlen
      omega
theorem elem_chg {n : Nat} {cs : List Value} {x : DataW H × List MemPlace} (h : DataW.trod enc Tryz.prog w base spare held n 73 cs = some x) :
    ∃ (c : Ch) (Q : Option Addr) (qc : Nat), cs = chL c (.slice Q c.q.length qc) ∧ (-9223372036854775808 ≤ c.op ∧ c.op ≤ 9223372036854775807) ∧ (0 ≤ c.d.b ∧ c.d.b < 18446744073709551616) ∧ c.q.length ≤ qc ∧ qc ≤ maxLen ∧ Rd w Q (cellsI c.q) ∧
      (SzT 73 x.1 → c.s.size ≤ 281474976710656 ∧ c.g.s.size ≤ 281474976710656 ∧ c.d.t.size ≤ 281474976710656 ∧ c.q.length ≤ 17592186044415) := by
  obtain ⟨xs, m, _, rfl, hl, hxl, hf⟩ := DataW.trod_struct Tryz.underlying73 h
  have c9 : Tryz.prog.cellsOf 73 = 9 := by kernel_rfl
  have k0 : Tryz.prog.cellsOf 9 = 1 := by kernel_rfl
  have k1 : Tryz.prog.cellsOf 3 = 1 := by kernel_rfl
  have k3 : Tryz.prog.cellsOf 68 = 3 := by kernel_rfl
  have k4 : Tryz.prog.cellsOf 71 = 3 := by kernel_rfl
  have k5 : Tryz.prog.cellsOf 29 = 1 := by kernel_rfl
  rw [c9] at hl
  obtain ⟨c0, c1, c2, c3, c4, c5, c6, c7, c8, rfl⟩ : ∃ a b c d e f g h i, cs = [a, b, c, d, e, f, g, h, i] := by
    match cs, hl with
    | [a, b, c, d, e, f, g, h, i], _ => exact ⟨a, b, c, d, e, f, g, h, i, rfl⟩
  obtain ⟨y0, y1, y2, y3, y4, rfl⟩ : ∃ a b c d e, xs = [a, b, c, d, e] := by
    match xs, hxl with
    | [a, b, c, d, e], _ => exact ⟨a, b, c, d, e, rfl⟩
  have h0 : DataW.trod enc Tryz.prog w base spare held m 3 (([c0, c1, c2, c3, c4, c5, c6, c7, c8].drop 0).take (Tryz.prog.cellsOf 3)) = some y0 := hf 0 _ rfl
  rw [k1] at h0
  have h1 : DataW.trod enc Tryz.prog w base spare held m 9 (([c0, c1, c2, c3, c4, c5, c6, c7, c8].drop 1).take (Tryz.prog.cellsOf 9)) = some y1 := hf 1 _ rfl
  rw [k0] at h1
  have h2 : DataW.trod enc Tryz.prog w base spare held m 68 (([c0, c1, c2, c3, c4, c5, c6, c7, c8].drop 2).take (Tryz.prog.cellsOf 68)) = some y2 := hf 2 _ rfl
  rw [k3] at h2
  have h3 : DataW.trod enc Tryz.prog w base spare held m 71 (([c0, c1, c2, c3, c4, c5, c6, c7, c8].drop 5).take (Tryz.prog.cellsOf 71)) = some y3 := hf 3 _ rfl
  rw [k4] at h3
  have h4 : DataW.trod enc Tryz.prog w base spare held m 29 (([c0, c1, c2, c3, c4, c5, c6, c7, c8].drop 8).take (Tryz.prog.cellsOf 29)) = some y4 := hf 4 _ rfl
  rw [k5] at h4
  obtain ⟨o, e0, _, w0⟩ := DataW.trod_int Tryz.underlying3 h0
  obtain ⟨s, e1, e3, w1⟩ := DataW.trod_string Tryz.underlying9 h1
  obtain ⟨g, e2, _, hg⟩ := elem_fld h2
  obtain ⟨vl, e4, hb, hv⟩ := elem_val h3
  obtain ⟨Q, q, qc, e5, hq1, hq2, hR, hq⟩ := elem_ints h4
  simp at e0 e1 e2 e4 e5
  obtain ⟨rfl, rfl, rfl⟩ := e2
  obtain ⟨rfl, rfl, rfl⟩ := e4
  subst e0 e1 e5
  refine ⟨⟨o, s, g, vl, q⟩, Q, qc, rfl, wf_i64 w0, hb, hq1, hq2, hR, fun hz => ?_⟩
  have z1 := hz.part Tryz.underlying73 (j := 1) rfl rfl rfl
  have z2 := hz.part Tryz.underlying73 (j := 2) rfl rfl rfl
  have z3 := hz.part Tryz.underlying73 (j := 3) rfl rfl rfl
  have z4 := hz.part Tryz.underlying73 (j := 4) rfl rfl rfl
  subst e3
  exact ⟨reach48 z1.str, hg z2, hv z3, hq z4⟩
theorem flat_get {α : Type} {F : α → List Value} {k : Nat} (hk : ∀ a, (F a).length = k) {l : List α} {i : Nat} {a : α} (h : l[i]? = some a) : ∀ r, r < k → (l.flatMap F)[i * k + r]? = (F a)[r]? := by
  induction l generalizing i with
  | nil => simp at h
  | cons b t ih =>
    intro r hr
    cases i with
    | zero => simp at h; subst h; rw [List.flatMap_cons, Nat.zero_mul, Nat.zero_add, List.getElem?_append_left (by rw [hk]; exact hr)]
    | succ i => rw [List.flatMap_cons, List.getElem?_append_right (by rw [hk, Nat.succ_mul]; omega), show (i + 1) * k + r - (F b).length = i * k + r by rw [hk, Nat.succ_mul]; omega]; exact ih (by simpa using h) r hr
theorem flat_len {α : Type} {F : α → List Value} {k : Nat} (hk : ∀ a, (F a).length = k) (l : List α) : (l.flatMap F).length = l.length * k := by
  induction l with
  | nil => simp
  | cons b t ih => rw [List.flatMap_cons, List.length_append, hk, ih, List.length_cons, Nat.succ_mul]; omega
/-- A row of anything that lies flat. -/
theorem open_row {α : Type} (a0 : α) {F : α → List Value} {k : Nat} (hk : ∀ a, (F a).length = k) (hk1 : 0 < k) {t e : TypeId} (hu : Tryz.prog.underlying t = some (.slice e)) (hc : Tryz.prog.cellsOf e = k) (hb : 1 ≤ Tryz.prog.bytesOf e) {G Z : α → Prop}
    (E : ∀ {n : Nat} {cs : List Value} {x : DataW H × List MemPlace}, DataW.trod enc Tryz.prog w base spare held n e cs = some x → ∃ a, cs = F a ∧ G a ∧ (SzT e x.1 → Z a))
    (hv : Value.okWide Tryz.prog w r b0 t v) (h : DataW.Trod enc Tryz.prog w base spare held t v d p) :
    ∃ (A : Option Addr) (c : Nat) (l : List α), v = .slice A l.length c ∧ l.length ≤ c ∧ c ≤ maxLen ∧ Rd w A (l.flatMap F) ∧ (∀ a ∈ l, G a) ∧ (SzT t d → (∀ a ∈ l, Z a) ∧ l.length ≤ 281474976710656) := by
  obtain ⟨a, len, cap, rfl⟩ := okWide_slice hu hv
  obtain ⟨fuel, hf⟩ := h
  rcases open_slice hu hf with ⟨hcs, _⟩ | ⟨x, l, c, m, n, D, Pl, hcs, _, hl, hm, hmm, hx, hi⟩
  · simp [Value.cells] at hcs
    obtain ⟨rfl, rfl, rfl⟩ := hcs
    exact ⟨none, 0, [], rfl, Nat.le_refl _, Nat.zero_le _, Rd.nil _ _, by simp, fun _ => ⟨by simp, Nat.zero_le _⟩⟩
  · simp [Value.cells] at hcs
    obtain ⟨rfl, rfl, rfl⟩ := hcs
    have hlm : len ≤ m := by rw [hmm]; split <;> omega
    have hel : ∀ i, ∃ a : α, i < len → G a ∧ (SzT e (D i) → Z a) ∧ ∀ j, j < k → w.cell? ((x.add (i * k)).add j) = (F a)[j]? := fun i => by
      by_cases hlt : i < len
      · obtain ⟨cs', hc', ht⟩ := hi i (by omega)
        rw [hc] at hc'
        obtain ⟨_, _, hat⟩ := World.cells?_some hc'
        obtain ⟨a, rfl, hG, hZ⟩ := E ht
        exact ⟨a, fun _ => ⟨hG, hZ, fun j hj => hat j hj⟩⟩
      · exact ⟨a0, fun h => absurd h hlt⟩
    let B := fun i => Classical.choose (hel i)
    have hB : ∀ i, i < len → G (B i) ∧ (SzT e (D i) → Z (B i)) ∧ ∀ j, j < k → w.cell? ((x.add (i * k)).add j) = (F (B i))[j]? := fun i => Classical.choose_spec (hel i)
    have hlen : ((List.range len).map B).length = len := by simp
    refine ⟨some x, cap, (List.range len).map B, by rw [hlen], by rw [hlen]; exact hl, hm, fun _ => ⟨x, rfl, fun j u hj => ?_⟩, ?_, fun hz => ⟨?_, ?_⟩⟩
    · have hjl : j < len * k := by
        have := (List.getElem?_eq_some_iff.1 hj).1
        rw [flat_len hk, hlen] at this; exact this
      have hq : j / k < len := Nat.div_lt_of_lt_mul (by rw [Nat.mul_comm]; exact hjl)
      have hr : j % k < k := Nat.mod_lt _ hk1
      have hj2 : j = j / k * k + j % k := by rw [Nat.mul_comm]; exact (Nat.div_add_mod j k).symm
      rw [hj2, flat_get hk (l := (List.range len).map B) (i := j / k) (a := B (j / k)) (by simp [hq]) _ hr] at hj
      rw [hj2, ← Addr.add_add, (hB _ hq).2.2 _ hr, hj]
    · intro b hb
      simp at hb
      obtain ⟨i, hi, rfl⟩ := hb
      exact (hB i hi).1
    · intro b hb
      simp at hb
      obtain ⟨i, hi, rfl⟩ := hb
      refine (hB i hi).2.1 ?_
      have hx1 : d = .slice ((List.range len).map D) ((List.range (m - len)).map fun j => D (len + j)) := congrArg Prod.fst hx
      rw [hx1] at hz
      exact hz.elem hu (List.mem_map.2 ⟨i, by simp [hi], rfl⟩)
    · rw [hlen]
      have hx1 : d = .slice ((List.range len).map D) ((List.range (m - len)).map fun j => D (len + j)) := congrArg Prod.fst hx
      rw [hx1] at hz
      have := hz.len hu hb
      simp at this
      exact reach48 this
/-- what a change that came as an argument is -/
def ChG (w : World) (x : Ch × Value) : Prop := (-9223372036854775808 ≤ x.1.op ∧ x.1.op ≤ 9223372036854775807) ∧ (0 ≤ x.1.d.b ∧ x.1.d.b < 18446744073709551616) ∧ ChO w x
end
end Go.Proofs.YteembinfgbapgaaGreat
/- Layer 7 of the heap, tables: two tables, one behind the other: what both ways share, and where the program hands back none. -/
set_option linter.unusedSimpArgs false
set_option linter.unusedVariables false
set_option maxRecDepth 100000
namespace Go.Proofs.YteembinfgbapgaaGreat
open Go.RowKit Go.Lib

/-- two tables in boxes, and a third box -/
structure CoS (w W : World) (T : TypeId) (P Q N : List Value) : Prop where
  B : Below w.heap.size w W
  P : OBox W w.heap.size P T
  Q : OBox W (w.heap.size + 1) Q T
  N : OBox W (w.heap.size + 2) N T
theorem CoS.below {w W W' : World} {T : TypeId} {P Q N : List Value} (h : CoS w W T P Q N) (hb : Below W.heap.size W W') : CoS w W' T P Q N :=
  ⟨below_seq h.B hb, h.P.below hb, h.Q.below hb, h.N.below hb⟩
theorem CoS.new (w : World) (T : TypeId) (P Q N : List Value) : CoS w (((w.alloc (.cells P.toArray T)).alloc (.cells Q.toArray T)).alloc (.cells N.toArray T)) T P Q N := by
  refine ⟨below_seq (below_new _) (below_seq (below_new _) (below_new _)), ((OBox.new w P T).below (below_new _)).below (below_new _), ?_, ?_⟩
  · have := (OBox.new (w.alloc (.cells P.toArray T)) Q T).below (below_new (.cells N.toArray T))
    rw [World.size_alloc] at this; exact this
  · have := OBox.new ((w.alloc (.cells P.toArray T)).alloc (.cells Q.toArray T)) N T
    rw [World.size_alloc, World.size_alloc] at this; exact this
theorem CoS.two {w W0 W : World} {T : TypeId} {x0 x1 x2 y0 y1 y2 : Value} {N : List Value} (h : CoS w W0 T [x0, x1, x2] [y0, y1, y2] N) (hb : Below W0.heap.size W0 W) :
    W.cell? ⟨w.heap.size, 0, none⟩ = some x0 ∧ W.cell? ⟨w.heap.size + 1, 1, none⟩ = some y1 ∧ Below W0.heap.size W0 W := ⟨(h.below hb).P.f3.1, (h.below hb).Q.f3.2.1, hb⟩
theorem RdP.up {P : Nat → Prop} {w w' : World} {A : Option Addr} {cs : List Value} (h : RdP P w A cs) (hb : Below w.heap.size w w') : RdP P w' A cs :=
  (h.lt.keep (fun g hg => hb.block g hg.2)).mono fun g hg => hg.1
theorem RdP.set3 {P : Nat → Prop} {w : World} {A : Option Addr} {cs : List Value} (h : RdP P w A cs) (p : Nat) (hp : ∀ g, P g → g ≠ p) (i j k : Nat) (x y z : Value) : RdP P (((w.setCell ⟨p, i, none⟩ x).setCell ⟨p, j, none⟩ y).setCell ⟨p, k, none⟩ z) A cs :=
  h.keep (fun g hg => (Below.heap_setCell _ _ _ _ (hp g hg)).trans ((Below.heap_setCell _ _ _ _ (hp g hg)).trans (Below.heap_setCell _ _ _ _ (hp g hg))))
theorem own_PL {w : World} {base n c : Nat} {e : TypeId} {K : Nat} {A : Option Addr} {xs : List Value} (h : w.ownsRow base e K (.slice A n c) n xs) : RdP (fun g => base ≤ g ∧ g < w.heap.size) w A xs :=
  own_P h fun g hg => ⟨own_base h g hg, own_lt h g hg⟩
theorem rightT_16 {t : Tb} (h : rightT t = true) : t.o.length ≤ 16 ∧ t.n.length ≤ 16 ∧ t.m.length ≤ 16 := by
  obtain ⟨h1, h2, h3, -⟩ := rightT_iff.1 h
  have a := (rightF_may h1).2
  have b := (rightF_may h2).2
  omega
theorem meet_no {a b : Tb} (h : meetB a b = false) : composeE a b = 70 ∧ composeT a b = Tb.z := by
  have e : composeE a b = 70 := by rw [composeE, if_neg (by rw [h]; rintro ⟨h, _⟩; cases h)]
  exact ⟨e, by rw [composeT, if_neg (by rw [e]; decide)]⟩
end Go.Proofs.YteembinfgbapgaaGreat
/- Layer 7 of the heap, tables: two tables that meet, one behind the other, as the program puts them together. -/
set_option linter.unusedSimpArgs false
set_option linter.unusedVariables false
set_option maxRecDepth 100000
namespace Go.Proofs.YteembinfgbapgaaGreat
open Go.RowKit Go.Lib

theorem CoS.step {w W W' : World} {T : TypeId} {P Q N : List Value} (h : CoS w W T P Q N) {M : Nat} (hM : w.heap.size + 2 < M) (BG : Below M W W') {p : Nat} (hp : w.heap.size + 2 < p) (j : Nat) (v : Value) : CoS w (W'.setCell ⟨p, j, none⟩ v) T P Q N := by
  have k : ∀ g, g ≤ w.heap.size + 2 → (W'.setCell ⟨p, j, none⟩ v).heap[g]? = W.heap[g]? := fun g hg => (Below.heap_setCell _ _ _ _ (by show g ≠ p; omega)).trans (BG.block g (by omega))
  exact ⟨(h.B.trans (BG.mono (by omega))).setCell (by show _ ≤ p; omega) _, (k _ (by omega)).trans h.P, (k _ (by omega)).trans h.Q, (k _ (by omega)).trans h.N⟩
theorem comp_cells (a b : Tb) {k : Nat} {y : Mv} (h : compMv a b k = y) : cellsM (compM a b (k + 1)) = cellsM (compM a b k) ++ [.int .i64 y.f, .int .i64 y.d.k, .int .u64 y.d.b, .string y.d.t] := by
  rw [compM_succ, cellsM_append, h]; rfl
theorem castL_va (v : Vl) (f g : Fd) : castV v.k v.b v.t f.k f.l g.k g.l = .agg #[.int .i64 (castL v f g).k, .int .u64 (castL v f g).b, .string (castL v f g).t] := castL_v v f g
theorem MBox.of {w : World} {b : Nat} {m : Mv} {T : TypeId} (h : OBox w b [.int .i64 m.f, .int .i64 m.d.k, .int .u64 m.d.b, .string m.d.t] T) : MBox w b m := ⟨h.cell rfl, h.cell rfl, h.cell rfl, h.cell rfl⟩
theorem OBox.far {w : World} {b : Nat} {cs : List Value} {T : TypeId} (h : OBox w b cs T) {p : Addr} (hp : p.block ≠ b) (v : Value) : OBox (w.setCell p v) b cs T := (Below.heap_setCell w p v b (fun e => hp e.symm)).trans h
theorem FBox3 {w : World} {b : Nat} {f : Fd} {T : TypeId} (h : OBox w b [.string f.s, .int .i64 f.k, .int .i64 f.l] T) : w.cell? ⟨b, 0, none⟩ = some (.string f.s) ∧ w.cell? ⟨b, 1, none⟩ = some (.int .i64 f.k) ∧ w.cell? ⟨b, 2, none⟩ = some (.int .i64 f.l) := ⟨h.cell rfl, h.cell rfl, h.cell rfl⟩
theorem MBox4 {w : World} {b : Nat} {m : Mv} {T : TypeId} (h : OBox w b [.int .i64 m.f, .int .i64 m.d.k, .int .u64 m.d.b, .string m.d.t] T) : w.cell? ⟨b, 0, none⟩ = some (.int .i64 m.f) ∧ w.cell? ⟨b, 1, none⟩ = some (.int .i64 m.d.k) ∧ w.cell? ⟨b, 2, none⟩ = some (.int .u64 m.d.b) ∧ w.cell? ⟨b, 3, none⟩ = some (.string m.d.t) ∧ w.frozen? ⟨b, 0, none⟩ = false ∧ w.frozen? ⟨b, 1, none⟩ = false ∧ w.frozen? ⟨b, 2, none⟩ = false ∧ w.frozen? ⟨b, 3, none⟩ = false := ⟨h.cell rfl, h.cell rfl, h.cell rfl, h.cell rfl, h.frz 0, h.frz 1, h.frz 2, h.frz 3⟩
end Go.Proofs.YteembinfgbapgaaGreat
/- Layer 8's law: its example. -/
set_option linter.unusedSimpArgs false
set_option linter.unusedVariables false
set_option maxRecDepth 100000
namespace Go.Proofs.YteembinfgbapgaaGreat
open Go.RowKit Go.Lib

def c1 : Ch := ⟨4, ⟨#[97]⟩, ⟨⟨#[]⟩, 2, 0⟩, ⟨0, 0, ⟨#[]⟩⟩, []⟩
def c2 : Ch := ⟨4, ⟨#[97]⟩, ⟨⟨#[]⟩, 5, 0⟩, ⟨0, 0, ⟨#[]⟩⟩, []⟩
def c3 : Ch := ⟨3, ⟨#[97]⟩, ⟨⟨#[98]⟩, 0, 0⟩, ⟨0, 0, ⟨#[]⟩⟩, []⟩
end Go.Proofs.YteembinfgbapgaaGreat
/- Layer 8 of the heap, changes: many, one behind the other, as the program makes them. -/
set_option linter.unusedSimpArgs false
set_option linter.unusedVariables false
set_option maxRecDepth 100000
namespace Go.Proofs.YteembinfgbapgaaGreat
open Go.RowKit Go.Lib

/-- a row whose first cell is none of a box's lies elsewhere -/
theorem Rd.ne {w : World} {A : Option Addr} {cs bs : List Value} {b : Nat} {T : TypeId} (h : Rd w A cs) (hb : OBox w b bs T) (hd : ∀ u, cs[0]? = some u → u ∉ bs) : RdP (fun g => g ≠ b) w A cs := fun hn => by
  obtain ⟨ad, e, hc⟩ := h hn
  refine ⟨ad, e, ?_, hc⟩
  rintro rfl
  cases cs with
  | nil => exact hn rfl
  | cons u r =>
    have h0 := hc 0 u rfl
    have e0 : ad.add 0 = ad := rfl
    rw [e0] at h0
    unfold World.cell? at h0
    have hb' : w.heap[ad.block]? = some (.cells bs.toArray T (0, 0)) := hb
    rw [hb'] at h0
    simp only at h0
    split at h0
    · cases h0
    · have h1 : bs[ad.off]? = some u := by simpa using h0
      exact hd u rfl (List.mem_of_getElem? h1)
theorem cellsF_head {l : List Fd} {u : Value} (h : (cellsF l)[0]? = some u) : ∃ s, u = .string s := by
  cases l with
  | nil => cases h
  | cons f r => exact ⟨f.s, by simp [cellsF] at h; exact h.symm⟩
theorem cellsM_head {l : List Mv} {u : Value} (h : (cellsM l)[0]? = some u) : ∃ s, u = .int .i64 s := by
  cases l with
  | nil => cases h
  | cons f r => exact ⟨f.f, by simp [cellsM] at h; exact h.symm⟩
theorem RdF.set3 {w : World} {A : Option Addr} {l : List Fd} {b : Nat} {P0 P1 P2 : Option Addr} {n0 n1 n2 c0 c1 c2 : Nat} {T : TypeId} (h : Rd w A (cellsF l)) (hb : OBox w b [.slice P0 n0 c0, .slice P1 n1 c1, .slice P2 n2 c2] T) (x y z : Value) : Rd (((w.setCell ⟨b, 0, none⟩ x).setCell ⟨b, 1, none⟩ y).setCell ⟨b, 2, none⟩ z) A (cellsF l) :=
  ((h.ne hb (fun u hu => by obtain ⟨s, rfl⟩ := cellsF_head hu; simp)).set3 b (fun g hg => hg) 0 1 2 x y z).rd
theorem RdM.set3 {w : World} {A : Option Addr} {l : List Mv} {b : Nat} {P0 P1 P2 : Option Addr} {n0 n1 n2 c0 c1 c2 : Nat} {T : TypeId} (h : Rd w A (cellsM l)) (hb : OBox w b [.slice P0 n0 c0, .slice P1 n1 c1, .slice P2 n2 c2] T) (x y z : Value) : Rd (((w.setCell ⟨b, 0, none⟩ x).setCell ⟨b, 1, none⟩ y).setCell ⟨b, 2, none⟩ z) A (cellsM l) :=
  ((h.ne hb (fun u hu => by obtain ⟨s, rfl⟩ := cellsM_head hu; simp)).set3 b (fun g hg => hg) 0 1 2 x y z).rd
/-- names that are no longer than may be -/
def NmS (l : List Fd) : Prop := ∀ f ∈ l, f.s.size ≤ 281474976710656
theorem newF_names {l : List Fd} {c : Ch} (h : NmS l) (hg : c.g.s.size ≤ 281474976710656) : NmS (newF l c) := by
  intro f hf
  unfold newF at hf
  split at hf
  · rcases List.mem_append.1 hf with h1 | h1
    · exact h f h1
    · simp at h1; subst h1; exact hg
  · split at hf
    · exact h f (List.mem_of_mem_eraseIdx hf)
    · split at hf
      · obtain ⟨i, hi⟩ := List.mem_iff_getElem?.1 hf
        rw [List.getElem?_modify] at hi
        cases hx : l[i]? with
        | none => rw [hx] at hi; cases hi
        | some x =>
          rw [hx] at hi
          have hi2 : (if atC l c = i then (⟨c.g.s, x.k, x.l⟩ : Fd) else x) = f := Option.some.inj hi
          split at hi2
          · subst hi2; exact hg
          · subst hi2; exact h _ (List.mem_of_getElem? hx)
      · split at hf
        · obtain ⟨i, hi⟩ := List.mem_iff_getElem?.1 hf
          rw [List.getElem?_modify] at hi
          cases hx : l[i]? with
          | none => rw [hx] at hi; cases hi
          | some x =>
            rw [hx] at hi
            have hi2 : (if atC l c = i then (⟨x.s, c.g.k, c.g.l⟩ : Fd) else x) = f := Option.some.inj hi
            split at hi2
            · subst hi2; exact h x (List.mem_of_getElem? hx)
            · subst hi2; exact h _ (List.mem_of_getElem? hx)
        · obtain ⟨n, _, rfl⟩ := List.mem_map.1 hf
          cases hx : l[n.toNat]? with
          | none => show (Fd.z).s.size ≤ _; exact Nat.zero_le _
          | some x => exact h x (List.mem_of_getElem? hx)
theorem newM_wo {l : List Fd} {c : Ch} (x0 : 0 ≤ c.d.b) (x1 : c.d.b < 18446744073709551616) : MvW (newM l c) := by
  unfold newM
  split
  · exact w_add (kM_w _) x0 x1
  · split
    · exact w_del (kM_w _) _
    · split
      · exact w_ord _
      · exact kM_w _
/-- a table that may be, with what the walks ask -/
structure TOk (t : Tb) : Prop where
  r : rightT t = true
  w : MvW t.m
  o : NmS t.o
  n : NmS t.n
theorem TOk.keep {l : List Fd} (h : rightF l = true) (hn : NmS l) : TOk (keepT l) := by
  rw [keepT_right h]
  exact ⟨keep_right h, kM_w _, hn, hn⟩
theorem TOk.make {l : List Fd} {c : Ch} (h : makeE l c = 0) (hn : NmS l) (hg : c.g.s.size ≤ 281474976710656) (x0 : 0 ≤ c.d.b) (x1 : c.d.b < 18446744073709551616) : TOk (makeT l c) := by
  obtain ⟨h1, h2, h3, h4⟩ := makeE_right h
  rw [h4] at h1 ⊢
  exact ⟨h1, newM_wo x0 x1, hn, newF_names hn hg⟩
theorem TOk.comp {a b : Tb} (ha : TOk a) (hb : TOk b) (h : composeE a b = 0) : TOk (composeT a b) := by
  obtain ⟨h1, h2, h3⟩ := composeE_right h
  rw [h3]
  exact ⟨h2, compM_w ha.w hb.w _, ha.o, hb.n⟩
theorem composeE_ways (a b : Tb) : composeE a b = 0 ∨ composeE a b = 70 := by unfold composeE; split <;> simp
theorem goT_make {t : Tb} {c : Ch} {r : List Ch} (h : ¬ makeE t.n c = 0) : goT t (c :: r) = (Tb.z, makeE t.n c) := by rw [goT, if_neg h]
theorem goT_comp {t : Tb} {c : Ch} {r : List Ch} (h : makeE t.n c = 0) (h2 : ¬ composeE t (makeT t.n c) = 0) : goT t (c :: r) = (Tb.z, 70) := by rw [goT, if_pos h, if_neg h2]
theorem goT_next {t : Tb} {c : Ch} {r : List Ch} (h : makeE t.n c = 0) (h2 : composeE t (makeT t.n c) = 0) : goT t (c :: r) = goT (composeT t (makeT t.n c)) r := by rw [goT, if_pos h, if_pos h2]
/-- what the walks ask of a change -/
def ChW (p : Ch × Value) : Prop := (-9223372036854775808 ≤ p.1.op ∧ p.1.op ≤ 9223372036854775807) ∧ (0 ≤ p.1.d.b ∧ p.1.d.b < 18446744073709551616) ∧ p.1.q.length ≤ 17592186044415 ∧ p.1.g.s.size ≤ 281474976710656
end Go.Proofs.YteembinfgbapgaaGreat
/- Layers 7 and 8 of the heap, tables: the table that changes nothing, as the program makes it, of a right row: with what its old row may hold. -/
set_option linter.unusedSimpArgs false
set_option linter.unusedVariables false
set_option maxRecDepth 100000
namespace Go.Proofs.YteembinfgbapgaaGreat
open Go.RowKit

set_option maxHeartbeats 4000000 in
theorem TSame_cap (A : Option Addr) (c m : Nat) (l : List Fd) (hm : l.length = m) (hr : rightF l = true) (w : World) (hA : Rd w A (cellsF l)) (hl : m ≤ 9223372036854775807) (hc : m ≤ c) :
    Calls Tryz.prog 45 #[.slice A m c] w fun e w' => ∃ B d v2 v3 b1 b2, e = .returned (.agg #[.slice B m d, v2, v3]) ∧ m ≤ d ∧ w.heap.size ≤ b1 ∧ b1 ≤ b2 ∧ b2 ≤ w'.heap.size ∧ RdB b1 w' B (cellsF l) ∧ (∀ ad, B = some ad → w.heap.size ≤ ad.block ∧ ad.block < b1) ∧ w'.ownsRow b1 68 3 v2 m (cellsF l) ∧ OwnLt b2 v2 ∧ w'.ownsRow b2 137 4 v3 m (cellsM (kM m)) ∧ Below w.heap.size w w' := by
  obtain ⟨i0, hi, hz0, hz1, hz2⟩ := info_parts infoMv
  have h16 : m ≤ 16 := by rw [← hm]; exact (rightF_may hr).2
  have hb1 := below_new (w := w) (.cells #[.slice none 0 0, .slice none 0 0, .slice none 0 0] 96)
  have R := OBox.new w [.slice none 0 0, .slice none 0 0, .slice none 0 0] 96
  have HB := hb1
  replace hA := hA.below hb1
  have HM := Lib.hid hm
  have HR := Lib.hid hr
  have tok1 := True.intro
  clear hm hr hb1
  go_enter Tryz.func45, Tryz.ntmps45
  go_wp2_with (first
    | (go_at_call 62; refine (Right_m A c m l HM.out true HR.out _ hA hl).mono ?_; rintro e W1 ⟨rfl, hb⟩; replace HB := HB.trans (hb.mono HB.size); replace R := R.below hb; replace hA := hA.below hb; have hz1W : w.heap.size + 1 ≤ W1.heap.size := R.lt; clear hb)
    | (have _t := tok1; go_at_call 35; refine (CloneF_m A c m l HM.out _ hA (by omega) hc).mono ?_; rintro e W2 ⟨B, d, rfl, hd, own1, hb⟩; replace HB := HB.trans (hb.mono HB.size); replace R := R.below hb; replace hA := hA.below hb; have hz12 := HB.size; have h12 := hb.size; clear hb tok1; have tok2 := True.intro)
    | (have _t := tok2; go_at_call 35; refine (CloneF_m A c m l HM.out _ hA (by omega) hc).mono ?_; rintro e W3 ⟨B2, d2, rfl, hd2, own2, hb3⟩; replace HB := HB.trans (hb3.mono HB.size); replace R := R.below hb3; clear hA tok2))
  have O := OBox.new W3 [.slice B m d, .slice B2 m d2, .slice none 0 0] 96
  have hb2 := below_new (w := W3) (.cells #[.slice B m d, .slice B2 m d2, .slice none 0 0] 96)
  have hzW : w.heap.size < W3.heap.size := R.lt
  have h23 := hb3.size
  have lt1 : OwnLt W2.heap.size (.slice B m d) := own_lt own1
  have own1' := own_mono (own_below (own_below own1 hb3) hb2) hz1W
  have own2' := own_below own2 hb2
  have lt2 : OwnLt W3.heap.size (.slice B2 m d2) := own_lt own2
  have R0 := R.below hb2
  have HB0 := HB.trans (hb2.mono HB.size)
  clear hb2 HB R own1 own2 hb3
  go_loopw [4, 16] (fun i j wr => ∃ (k : Nat) (v : Value), k ≤ m ∧ j = .int .i64 k ∧ wr.ownsRow (W3.heap.size + 1) 137 4 v k (cellsM (kM k)) ∧ OBox wr W3.heap.size [.slice B m d, .slice B2 m d2, v] 96 ∧ OBox wr w.heap.size [.slice none 0 0, .slice none 0 0, .slice none 0 0] 96 ∧ Below w.heap.size w wr ∧ W3.heap.size < wr.heap.size ∧ wr.ownsRow (w.heap.size + 1) 68 3 (.slice B m d) m (cellsF l) ∧ wr.ownsRow W2.heap.size 68 3 (.slice B2 m d2) m (cellsF l)) (fun _ i _ => m - (intOf i).toNat)
  case atStart => exact ⟨0, _, by omega, rfl, own_nil _ _ _ _, O, R0, HB0, by simp, own1', own2'⟩
  case round =>
    obtain ⟨k, v, hk, rfl, hown, O, R, HB, hz, own1, own2⟩ := hrel
    clear R0 HB0
    by_cases hlt : k < m
    · have HK := Lib.hid (kM_succ k)
      obtain ⟨k0, k1, k2, f0, f1, f2⟩ := (O.below (below_new (w := wr) (.cells #[.int .i64 k, .int .i64 0, .int .u64 0, .string ⟨#[]⟩] 137))).f3
      obtain ⟨q0, q1, q2, p0, p1, p2⟩ := O.f3
      go_wp2_with (at_builtin; refine wpList_append_own _ rfl _ _ 94 rfl (W3.heap.size + 1) 137 i0 (.agg #[.int .i64 0, .int .i64 0, .int .u64 0, .string ⟨#[]⟩]) 4 40 Tryz.underlying94 hi hz0 hz1 hz2 rfl (by decide) _ _ _ rfl (hown.alloc _) ⟨wr.heap.size, 0, none⟩ 1 1 [.int .i64 k, .int .i64 0, .int .u64 0, .string ⟨#[]⟩] rfl rfl ?c1 ?c2 ?c3 ?c4 ?c5 ?_)
      case c1 => exact news4 _ _ _ _ _ _
      case c2 => intro u hu; simp at hu; rcases hu with rfl | rfl | rfl | rfl <;> rfl
      case c3 => simp only [maxLen]; omega
      case c4 => omega
      case c5 => simp; omega
      intro v' w3 hown' hgrow _
      have BG : Below (W3.heap.size + 1) wr w3 := ((Below.refl _ _).alloc (by omega) (.cells #[.int .i64 k, .int .i64 0, .int .u64 0, .string ⟨#[]⟩] 137)).grown hgrow (by simp; omega) (fun q hq => own_base hown q hq)
      have O3 : OBox w3 W3.heap.size [.slice B m d, .slice B2 m d2, v] 96 := (BG.block _ (by omega)).trans O
      have R3 : OBox w3 w.heap.size [.slice none 0 0, .slice none 0 0, .slice none 0 0] 96 := (BG.block _ (by omega)).trans R
      have HB3 := HB.trans (BG.mono (by omega))
      have hown3 : w3.ownsRow (W3.heap.size + 1) 137 4 v' (k + 1) (cellsM (kM (k + 1))) := own_eq hown' (by simp) (by rw [HK.out, cellsM_append]; rfl)
      have hz3 := BG.size
      obtain ⟨B', c', rfl, _, _, _⟩ := own_rd hown3
      clear hown' hgrow hown k0 k1 k2 f0 f1 f2 q0 q1 q2 p0 p1 p2
      obtain ⟨k0, k1, k2, f0, f1, f2⟩ := O3.f3
      go_wp2
      go_roundw
      case rel =>
        have BS : Below W3.heap.size wr (w3.setCell ⟨W3.heap.size, 2, none⟩ (.slice B' (k + 1) c')) := (BG.mono (Nat.le_succ _)).setCell (Nat.le_refl _) _
        exact ⟨k + 1, _, by omega, by go_num, ownsRow_setCell_below hown3 (by show _ < _; simp) _, obox_set O3 2 _, (Below.heap_setCell _ _ _ _ (by show _ ≠ _; simp; omega)).trans R3, HB3.setCell (by show _ ≤ _; simp; omega) _, by simp; omega, own_belowB own1 lt1 (BS.mono h23), own_belowB own2 lt2 BS⟩
      case measure => simp [intOf]; omega
    · obtain rfl : k = m := by omega
      obtain ⟨B', c', rfl, _, _, _⟩ := own_rd hown
      obtain ⟨k0, k1, k2, f0, f1, f2⟩ := O.f3
      obtain ⟨q0, q1, q2, p0, p1, p2⟩ := R.f3
      go_wp2
      refine bodyPost_ret (v := .agg #[.slice B k d, .slice B2 k d2, .slice B' k c']) (by simp [results, Tryz.results45, go_sem, *]; done) rfl ⟨B, d, _, _, W2.heap.size, W3.heap.size, rfl, hd, hz12, h23, ?_, ?_, ?_, ?_, lt2, ?_, ?_⟩
      · simp; omega
      · refine RdB.own (ownsRow_setCell_below (ownsRow_setCell_below (ownsRow_setCell_below own1 ?_ _) ?_ _) ?_ _) lt1 <;> (show _ < _; simp)
      · intro ad e; have := own_base own1 ad.block (by rw [e]; rfl); have := lt1 ad.block (by rw [e]; rfl); omega
      · refine ownsRow_setCell_below (ownsRow_setCell_below (ownsRow_setCell_below own2 ?_ _) ?_ _) ?_ _ <;> (show _ < _; simp; omega)
      · refine own_mono (ownsRow_setCell_below (ownsRow_setCell_below (ownsRow_setCell_below hown ?_ _) ?_ _) ?_ _) (Nat.le_succ _) <;> (show _ < _; simp; omega)
      · (repeat (first | exact HB | refine Below.setCell ?_ (by dsimp only; omega) _ | refine Below.alloc ?_ (by have hs_ := HB.size; first | (simp; done) | (simp; omega) | omega) _ | apply Below.drew))
end Go.Proofs.YteembinfgbapgaaGreat
