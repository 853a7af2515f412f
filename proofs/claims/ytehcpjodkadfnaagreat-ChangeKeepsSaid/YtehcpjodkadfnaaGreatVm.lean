/- Merged out of: Ry Sa Rz. -/
import Derived.Test.YtehcpjodkadfnaaGreatVl
import Derived.Test.YtehcpjodkadfnaaGreatUm
import Derived.Deep.Slices
import Derived.ChangeSame
import Derived.Test.YtehcpjodkadfnaaGreatVh
import Derived.Test.YtehcpjodkadfnaaGreatVj
/- Arguments of laws, opened: rows of fields, rows of values. -/
set_option linter.unusedSimpArgs false
set_option linter.unusedVariables false
set_option maxRecDepth 100000
namespace Go.Proofs.YtehcpjodkadfnaaGreat
open Go.ChangeShapes Go.WideShapes Go.ChangeAt Go.RowKit Go.Joins Go.Deep
open Go.ChangeMaps (open_string shut_string)

section
variable {H : Type} {enc : TypeId × Value → H} {w : World} {base b0 : Nat} {r : Reach} {spare : Nat → Bool} {held : Bool} {v : Value} {d : DataW H} {p : List MemPlace}

theorem cells3 {e : TypeId} {t0 t1 t2 : TypeId} {f0 f1 f2 : Field} {n : Nat} {cs : List Value} {x : DataW H × List MemPlace} (he : Tryz.prog.underlying e = some (.struct #[f0, f1, f2])) (hc : Tryz.prog.cellsOf e = 3)
    (h0 : f0.type = t0 ∧ f0.offset = 0 ∧ Tryz.prog.cellsOf t0 = 1) (h1 : f1.type = t1 ∧ f1.offset = 1 ∧ Tryz.prog.cellsOf t1 = 1) (h2 : f2.type = t2 ∧ f2.offset = 2 ∧ Tryz.prog.cellsOf t2 = 1)
    (h : DataW.trod enc Tryz.prog w base spare held n e cs = some x) :
    ∃ c0 c1 c2 m y0 y1 y2, cs = [c0, c1, c2] ∧ DataW.trod enc Tryz.prog w base spare held m t0 [c0] = some y0 ∧ DataW.trod enc Tryz.prog w base spare held m t1 [c1] = some y1 ∧ DataW.trod enc Tryz.prog w base spare held m t2 [c2] = some y2 := by
  obtain ⟨xs, m, _, hx, hl, hxl, hf⟩ := DataW.trod_struct he h
  obtain ⟨rfl, o0, k0⟩ := h0
  obtain ⟨rfl, o1, k1⟩ := h1
  obtain ⟨rfl, o2, k2⟩ := h2
  rw [hc] at hl
  obtain ⟨c0, c1, c2, rfl⟩ : ∃ a b c, cs = [a, b, c] := by
    match cs, hl with
    | [a, b, c], _ => exact ⟨a, b, c, rfl⟩
  obtain ⟨y0, y1, y2, rfl⟩ : ∃ a b c, xs = [a, b, c] := by
    match xs, hxl with
    | [a, b, c], _ => exact ⟨a, b, c, rfl⟩
  have g0 := hf 0 f0 rfl
  have g1 := hf 1 f1 rfl
  have g2 := hf 2 f2 rfl
  rw [o0, k0] at g0
  rw [o1, k1] at g1
  rw [o2, k2] at g2
  exact ⟨c0, c1, c2, m, y0, y1, y2, rfl, g0, g1, g2⟩
/-- A row of fields. -/
theorem open_flds (hv : Value.okWide Tryz.prog w r b0 22 v) (h : DataW.Trod enc Tryz.prog w base spare held 22 v d p) :
    ∃ A c fs, v = .slice A fs.length c ∧ fs.length ≤ c ∧ c ≤ maxLen ∧ Rd w A (cellsF fs) ∧ ∀ f ∈ fs, f.s.size ≤ maxLen := by
  obtain ⟨a, len, cap, rfl⟩ := okWide_slice Tryz.underlying22 hv
  obtain ⟨fuel, hf⟩ := h
  have c3 : Tryz.prog.cellsOf 29 = 3 := by kernel_rfl
  rcases open_slice Tryz.underlying22 hf with ⟨hcs, _⟩ | ⟨x, l, c, m, n, D, Pl, hcs, _, hl, hm, hmm, _, hi⟩
  · simp [Value.cells] at hcs
    obtain ⟨rfl, rfl, rfl⟩ := hcs
    exact ⟨none, 0, [], rfl, Nat.le_refl _, Nat.zero_le _, Rd.nil _ _, by simp⟩
  · simp [Value.cells] at hcs
    obtain ⟨rfl, rfl, rfl⟩ := hcs
    have hlm : len ≤ m := by rw [hmm]; split <;> omega
    have hel : ∀ i, ∃ f : Fd, i < len → f.s.size ≤ maxLen ∧ w.cell? (x.add (i * 3)) = some (.string f.s) ∧ w.cell? (x.add (i * 3 + 1)) = some (.int .i64 f.k) ∧ w.cell? (x.add (i * 3 + 2)) = some (.int .i64 f.l) := fun i => by
      by_cases hlt : i < len
      · obtain ⟨cs', hc, ht⟩ := hi i (by omega)
        rw [c3] at hc
        obtain ⟨_, _, hat⟩ := World.cells?_some hc
        obtain ⟨c0, c1, c2, m', y0, y1, y2, rfl, h0, h1, h2⟩ := cells3 (t0 := 9) (t1 := 3) (t2 := 3) Tryz.underlying29 c3 ⟨rfl, rfl, by kernel_rfl⟩ ⟨rfl, rfl, by kernel_rfl⟩ ⟨rfl, rfl, by kernel_rfl⟩ ht
        obtain ⟨s, e0, rfl, w0⟩ := DataW.trod_string Tryz.underlying9 h0
        obtain ⟨k, e1, rfl, w1⟩ := DataW.trod_int Tryz.underlying3 h1
        obtain ⟨l, e2, rfl, w2⟩ := DataW.trod_int Tryz.underlying3 h2
        simp at e0 e1 e2
        subst e0 e1 e2
        refine ⟨⟨s, k, l⟩, fun _ => ⟨w0, ?_, ?_, ?_⟩⟩
        · have := hat 0 (by omega); rw [Addr.add_add] at this; exact this
        · have := hat 1 (by omega); rw [Addr.add_add] at this; exact this
        · have := hat 2 (by omega); rw [Addr.add_add] at this; exact this
      · exact ⟨⟨⟨#[]⟩, 0, 0⟩, fun h => absurd h hlt⟩
    let F := fun i => Classical.choose (hel i)
    have hF : ∀ i, i < len → (F i).s.size ≤ maxLen ∧ w.cell? (x.add (i * 3)) = some (.string (F i).s) ∧ w.cell? (x.add (i * 3 + 1)) = some (.int .i64 (F i).k) ∧ w.cell? (x.add (i * 3 + 2)) = some (.int .i64 (F i).l) := fun i => Classical.choose_spec (hel i)
    have hlen : ((List.range len).map F).length = len := by simp
    refine ⟨some x, cap, (List.range len).map F, by rw [hlen], by rw [hlen]; exact hl, hm, fun _ => ⟨x, rfl, fun j u hj => ?_⟩, ?_⟩
    · have hjl : j < 3 * len := by
        have := (List.getElem?_eq_some_iff.1 hj).1
        rw [cellsF_length, hlen] at this; exact this
      obtain ⟨q, hq⟩ : ∃ q, j / 3 = q := ⟨_, rfl⟩
      have hql : q < len := by omega
      obtain ⟨g0, g1, g2⟩ := cellsF_get ((List.range len).map F) q (F q) (by simp [hql])
      obtain ⟨_, k0, k1, k2⟩ := hF q hql
      rcases (by omega : j = q * 3 ∨ j = q * 3 + 1 ∨ j = q * 3 + 2) with e | e | e
      · subst e; rw [g0] at hj; cases hj; exact k0
      · subst e; rw [g1] at hj; cases hj; exact k1
      · subst e; rw [g2] at hj; cases hj; exact k2
    · intro f hf
      simp at hf
      obtain ⟨i, hi, rfl⟩ := hf
      exact (hF i hi).1
end
end Go.Proofs.YtehcpjodkadfnaaGreat
/- Arguments of laws, opened with their sizes: fields, values, rows of numbers, changes, rows of them. -/
set_option linter.unusedSimpArgs false
set_option linter.unusedVariables false
set_option maxRecDepth 100000
namespace Go.Proofs.YtehcpjodkadfnaaGreat
open Go.ChangeShapes Go.WideShapes Go.ChangeAt Go.RowKit Go.Joins Go.Deep
open Go.ChangeMaps (open_string shut_string)

/-- all that stands in a datum is no longer than memory reaches -/
def SzT {H : Type} (t : TypeId) (d : DataW H) : Prop := ∀ n ∈ DataW.weights Tryz.prog t d, n ≤ reachBytes
theorem SzT.of {H : Type} {ts : List TypeId} {ds : List (DataW H)} (h : (DataW.weightsEach Tryz.prog ts ds).all (· ≤ reachBytes) = true) {j : Nat} {t : TypeId} {d : DataW H} (ht : ts[j]? = some t) (hd : ds[j]? = some d) : SzT t d := fun n hn => by
  have := List.all_eq_true.1 h _ (DataW.weights_mem_each ht hd n hn)
  simpa using this
theorem weightsAll_in {H : Type} {e : TypeId} : ∀ {l : List (DataW H)} {d : DataW H}, d ∈ l → ∀ n ∈ DataW.weights Tryz.prog e d, n ∈ DataW.weightsAll Tryz.prog e l
  | d' :: r, d, hd, n, hn => by
    simp only [DataW.weightsAll, List.mem_append]
    rcases List.mem_cons.1 hd with rfl | h
    · exact Or.inl hn
    · exact Or.inr (weightsAll_in h n hn)
theorem SzT.part {H : Type} {t t1 : TypeId} {fs : Array Field} {ps : List (DataW H)} {j : Nat} {f : Field} {d : DataW H} (h : SzT t (.agg ps)) (hu : Tryz.prog.underlying t = some (.struct fs)) (hf : fs[j]? = some f) (ht : f.type = t1) (hd : ps[j]? = some d) : SzT t1 d := fun n hn => by
  refine h n ?_
  simp only [DataW.weights, hu]
  refine DataW.weights_mem_each (j := j) (t := t1) ?_ hd n hn
  rw [List.getElem?_map, Array.getElem?_toList, hf, ← ht]
  rfl
theorem SzT.elem {H : Type} {t e : TypeId} {l sp : List (DataW H)} {d : DataW H} (h : SzT t (.slice l sp)) (hu : Tryz.prog.underlying t = some (.slice e)) (hd : d ∈ l) : SzT e d := fun n hn => by
  refine h n ?_
  simp only [DataW.weights, hu, List.mem_cons, List.mem_append]
  exact .inr (.inl (weightsAll_in hd n hn))
theorem SzT.len {H : Type} {t e : TypeId} {l sp : List (DataW H)} (h : SzT t (.slice l sp)) (hu : Tryz.prog.underlying t = some (.slice e)) (hb : 1 ≤ Tryz.prog.bytesOf e) : l.length ≤ reachBytes := by
  have h1 : (l.length + sp.length) * Tryz.prog.bytesOf e ≤ reachBytes := h _ (by simp only [DataW.weights, hu, List.mem_cons, true_or])
  have : l.length + sp.length ≤ (l.length + sp.length) * Tryz.prog.bytesOf e := Nat.le_mul_of_pos_right _ hb
  omega
theorem SzT.str {H : Type} {t : TypeId} {s : ByteArray} (h : SzT (H := H) t (.lit (.string s.data.toList))) : s.size ≤ reachBytes := by
  have := h s.data.toList.length (by simp [DataW.weights])
  simpa using this
theorem reach48 {n : Nat} (h : n ≤ reachBytes) : n ≤ 281474976710656 := by
  have := reachBytes_lt
  omega

section
variable {H : Type} {enc : TypeId × Value → H} {w : World} {base b0 : Nat} {r : Reach} {spare : Nat → Bool} {held : Bool} {v : Value} {d : DataW H} {p : List MemPlace}

theorem elem_fld {n : Nat} {cs : List Value} {x : DataW H × List MemPlace} (h : DataW.trod enc Tryz.prog w base spare held n 29 cs = some x) :
    ∃ f : Fd, cs = [.string f.s, .int .i64 f.k, .int .i64 f.l] ∧ f.s.size ≤ maxLen ∧ (SzT 29 x.1 → f.s.size ≤ 281474976710656) := by
  obtain ⟨y0, y1, y2, m, rfl, hl, h0, h1, h2⟩ := trod_struct3 Tryz.underlying29 h
  have c3 : Tryz.prog.cellsOf 29 = 3 := by kernel_rfl
  have k0 : Tryz.prog.cellsOf 9 = 1 := by kernel_rfl
  have k1 : Tryz.prog.cellsOf 3 = 1 := by kernel_rfl
  rw [c3] at hl
  obtain ⟨c0, c1, c2, rfl⟩ : ∃ a b c, cs = [a, b, c] := by
    match cs, hl with
    | [a, b, c], _ => exact ⟨a, b, c, rfl⟩
  simp only [k0, k1] at h0 h1 h2
  obtain ⟨s, e0, e3, w0⟩ := DataW.trod_string Tryz.underlying9 h0
  obtain ⟨k, e1, _, w1⟩ := DataW.trod_int Tryz.underlying3 h1
  obtain ⟨l, e2, _, w2⟩ := DataW.trod_int Tryz.underlying3 h2
  simp at e0 e1 e2
  subst e0 e1 e2
  refine ⟨⟨s, k, l⟩, rfl, w0, fun hz => reach48 ?_⟩
  subst e3
  exact (hz.part Tryz.underlying29 (j := 0) rfl rfl rfl).str
theorem elem_val {n : Nat} {cs : List Value} {x : DataW H × List MemPlace} (h : DataW.trod enc Tryz.prog w base spare held n 33 cs = some x) :
    ∃ f : Vl, cs = [.int .i64 f.k, .int .u64 f.b, .string f.t] ∧ (0 ≤ f.b ∧ f.b < 18446744073709551616) ∧ (SzT 33 x.1 → f.t.size ≤ 281474976710656) := by
  obtain ⟨y0, y1, y2, m, rfl, hl, h0, h1, h2⟩ := trod_struct3 Tryz.underlying33 h
  have c3 : Tryz.prog.cellsOf 33 = 3 := by kernel_rfl
  have k0 : Tryz.prog.cellsOf 9 = 1 := by kernel_rfl
  have k1 : Tryz.prog.cellsOf 3 = 1 := by kernel_rfl
  have k2 : Tryz.prog.cellsOf 31 = 1 := by kernel_rfl
  rw [c3] at hl
  obtain ⟨c0, c1, c2, rfl⟩ : ∃ a b c, cs = [a, b, c] := by
    match cs, hl with
    | [a, b, c], _ => exact ⟨a, b, c, rfl⟩
  simp only [k0, k1, k2] at h0 h1 h2
  obtain ⟨k, e0, _, w0⟩ := DataW.trod_int Tryz.underlying3 h0
  obtain ⟨b, e1, _, w1⟩ := DataW.trod_int Tryz.underlying31 h1
  obtain ⟨s, e2, e3, w2⟩ := DataW.trod_string Tryz.underlying9 h2
  simp at e0 e1 e2
  subst e0 e1 e2
  refine ⟨⟨k, b, s⟩, rfl, wf_u64 w1, fun hz => reach48 ?_⟩
  subst e3
  exact (hz.part Tryz.underlying33 (j := 2) rfl rfl rfl).str
theorem elem_ints {n : Nat} {cs : List Value} {x : DataW H × List MemPlace} (h : DataW.trod enc Tryz.prog w base spare held n 50 cs = some x) :
    ∃ Q q qc, cs = [.slice Q q.length qc] ∧ q.length ≤ qc ∧ qc ≤ maxLen ∧ Rd w Q (cellsI q) ∧ (SzT 50 x.1 → q.length ≤ 281474976710656) := by
  rcases open_ints Tryz.underlying50 Tryz.underlying3 (by kernel_rfl) h with ⟨hcs, _⟩ | ⟨a, l, c, zs, hcs, _, hl, hm, hz, hx, hcell, hwz⟩
  · exact ⟨none, [], 0, hcs, Nat.le_refl _, Nat.zero_le _, Rd.nil _ _, fun _ => Nat.zero_le _⟩
  · have hzl : l ≤ zs.length := by rw [hz]; split <;> omega
    have hlen : (zs.take l).length = l := by rw [List.length_take]; omega
    refine ⟨some a, zs.take l, c, by rw [hlen]; exact hcs, by rw [hlen]; exact hl, hm, fun _ => ⟨a, rfl, fun j u hj => ?_⟩, fun hs => reach48 ?_⟩
    · have hjl : j < l := by
        rcases Nat.lt_or_ge j l with h' | h'
        · exact h'
        · rw [List.getElem?_eq_none (by rw [cellsI_length, hlen]; exact h')] at hj; cases hj
      have hjz : j < zs.length := by omega
      rw [hcell j hjz]
      simp only [cellsI, List.getElem?_map, List.getElem?_take, if_pos hjl, List.getElem?_eq_getElem hjz, Option.map_some, Option.some.injEq] at hj
      rw [← hj]
      simp [List.getD_eq_getElem?_getD, List.getElem?_eq_getElem hjz]
    · subst hx
      have := hs.len Tryz.underlying50 (by show 1 ≤ Tryz.prog.bytesOf 3; exact of_decide_eq_true (by kernel_rfl))
      simpa [lits] using this
theorem elem_chg {n : Nat} {cs : List Value} {x : DataW H × List MemPlace} (h : DataW.trod enc Tryz.prog w base spare held n 52 cs = some x) :
    ∃ (c : Ch) (Q : Option Addr) (qc : Nat), cs = chL c (.slice Q c.q.length qc) ∧ (-9223372036854775808 ≤ c.op ∧ c.op ≤ 9223372036854775807) ∧ (0 ≤ c.d.b ∧ c.d.b < 18446744073709551616) ∧ c.q.length ≤ qc ∧ qc ≤ maxLen ∧ Rd w Q (cellsI c.q) ∧
      (SzT 52 x.1 → c.s.size ≤ 281474976710656 ∧ c.g.s.size ≤ 281474976710656 ∧ c.d.t.size ≤ 281474976710656 ∧ c.q.length ≤ 281474976710656) := by
  obtain ⟨xs, m, _, rfl, hl, hxl, hf⟩ := DataW.trod_struct Tryz.underlying52 h
  have c9 : Tryz.prog.cellsOf 52 = 9 := by kernel_rfl
  have k0 : Tryz.prog.cellsOf 9 = 1 := by kernel_rfl
  have k1 : Tryz.prog.cellsOf 3 = 1 := by kernel_rfl
  have k3 : Tryz.prog.cellsOf 29 = 3 := by kernel_rfl
  have k4 : Tryz.prog.cellsOf 33 = 3 := by kernel_rfl
  have k5 : Tryz.prog.cellsOf 50 = 1 := by kernel_rfl
  rw [c9] at hl
  obtain ⟨c0, c1, c2, c3, c4, c5, c6, c7, c8, rfl⟩ : ∃ a b c d e f g h i, cs = [a, b, c, d, e, f, g, h, i] := by
    match cs, hl with
    | [a, b, c, d, e, f, g, h, i], _ => exact ⟨a, b, c, d, e, f, g, h, i, rfl⟩
  obtain ⟨y0, y1, y2, y3, y4, rfl⟩ : ∃ a b c d e, xs = [a, b, c, d, e] := by
    match xs, hxl with
    | [a, b, c, d, e], _ => exact ⟨a, b, c, d, e, rfl⟩
  have h0 : DataW.trod enc Tryz.prog w base spare held m 3 (([c0, c1, c2, c3, c4, c5, c6, c7, c8].drop 0).take (Tryz.prog.cellsOf 3)) = some y0 := hf 0 _ rfl
  rw [k1] at h0
  have h1 : DataW.trod enc Tryz.prog w base spare held m 9 (([c0, c1, c2, c3, c4, c5, c6, c7, c8].drop 1).take (Tryz.prog.cellsOf 9)) = some y1 := hf 1 _ rfl
  rw [k0] at h1
  have h2 : DataW.trod enc Tryz.prog w base spare held m 29 (([c0, c1, c2, c3, c4, c5, c6, c7, c8].drop 2).take (Tryz.prog.cellsOf 29)) = some y2 := hf 2 _ rfl
  rw [k3] at h2
  have h3 : DataW.trod enc Tryz.prog w base spare held m 33 (([c0, c1, c2, c3, c4, c5, c6, c7, c8].drop 5).take (Tryz.prog.cellsOf 33)) = some y3 := hf 3 _ rfl
  rw [k4] at h3
  have h4 : DataW.trod enc Tryz.prog w base spare held m 50 (([c0, c1, c2, c3, c4, c5, c6, c7, c8].drop 8).take (Tryz.prog.cellsOf 50)) = some y4 := hf 4 _ rfl
  rw [k5] at h4
  obtain ⟨o, e0, _, w0⟩ := DataW.trod_int Tryz.underlying3 h0
  obtain ⟨s, e1, e3, w1⟩ := DataW.trod_string Tryz.underlying9 h1
  obtain ⟨g, e2, _, hg⟩ := elem_fld h2
  obtain ⟨vl, e4, hb, hv⟩ := elem_val h3
  obtain ⟨Q, q, qc, e5, hq1, hq2, hR, hq⟩ := elem_ints h4
  simp at e0 e1 e2 e4 e5
  obtain ⟨rfl, rfl, rfl⟩ := e2
  obtain ⟨rfl, rfl, rfl⟩ := e4
  subst e0 e1 e5
  refine ⟨⟨o, s, g, vl, q⟩, Q, qc, rfl, wf_i64 w0, hb, hq1, hq2, hR, fun hz => ?_⟩
  have z1 := hz.part Tryz.underlying52 (j := 1) rfl rfl rfl
  have z2 := hz.part Tryz.underlying52 (j := 2) rfl rfl rfl
  have z3 := hz.part Tryz.underlying52 (j := 3) rfl rfl rfl
  have z4 := hz.part Tryz.underlying52 (j := 4) rfl rfl rfl
  subst e3
  exact ⟨reach48 z1.str, hg z2, hv z3, hq z4⟩
theorem flat_get {α : Type} {F : α → List Value} {k : Nat} (hk : ∀ a, (F a).length = k) {l : List α} {i : Nat} {a : α} (h : l[i]? = some a) : ∀ r, r < k → (l.flatMap F)[i * k + r]? = (F a)[r]? := by
  induction l generalizing i with
  | nil => simp at h
  | cons b t ih =>
    intro r hr
    cases i with
    | zero => simp at h; subst h; rw [List.flatMap_cons, Nat.zero_mul, Nat.zero_add, List.getElem?_append_left (by rw [hk]; exact hr)]
    | succ i => rw [List.flatMap_cons, List.getElem?_append_right (by rw [hk, Nat.succ_mul]; omega), show (i + 1) * k + r - (F b).length = i * k + r by rw [hk, Nat.succ_mul]; omega]; exact ih (by simpa using h) r hr
theorem flat_len {α : Type} {F : α → List Value} {k : Nat} (hk : ∀ a, (F a).length = k) (l : List α) : (l.flatMap F).length = l.length * k := by
  induction l with
  | nil => simp
  | cons b t ih => rw [List.flatMap_cons, List.length_append, hk, ih, List.length_cons, Nat.succ_mul]; omega
/-- A row of anything that lies flat. -/
theorem open_row {α : Type} (a0 : α) {F : α → List Value} {k : Nat} (hk : ∀ a, (F a).length = k) (hk1 : 0 < k) {t e : TypeId} (hu : Tryz.prog.underlying t = some (.slice e)) (hc : Tryz.prog.cellsOf e = k) (hb : 1 ≤ Tryz.prog.bytesOf e) {G Z : α → Prop}
    (E : ∀ {n : Nat} {cs : List Value} {x : DataW H × List MemPlace}, DataW.trod enc Tryz.prog w base spare held n e cs = some x → ∃ a, cs = F a ∧ G a ∧ (SzT e x.1 → Z a))
    (hv : Value.okWide Tryz.prog w r b0 t v) (h : DataW.Trod enc Tryz.prog w base spare held t v d p) :
    ∃ (A : Option Addr) (c : Nat) (l : List α), v = .slice A l.length c ∧ l.length ≤ c ∧ c ≤ maxLen ∧ Rd w A (l.flatMap F) ∧ (∀ a ∈ l, G a) ∧ (SzT t d → (∀ a ∈ l, Z a) ∧ l.length ≤ 281474976710656) := by
  obtain ⟨a, len, cap, rfl⟩ := okWide_slice hu hv
  obtain ⟨fuel, hf⟩ := h
  rcases open_slice hu hf with ⟨hcs, _⟩ | ⟨x, l, c, m, n, D, Pl, hcs, _, hl, hm, hmm, hx, hi⟩
  · simp [Value.cells] at hcs
    obtain ⟨rfl, rfl, rfl⟩ := hcs
    exact ⟨none, 0, [], rfl, Nat.le_refl _, Nat.zero_le _, Rd.nil _ _, by simp, fun _ => ⟨by simp, Nat.zero_le _⟩⟩
  · simp [Value.cells] at hcs
    obtain ⟨rfl, rfl, rfl⟩ := hcs
    have hlm : len ≤ m := by rw [hmm]; split <;> omega
    have hel : ∀ i, ∃ a : α, i < len → G a ∧ (SzT e (D i) → Z a) ∧ ∀ j, j < k → w.cell? ((x.add (i * k)).add j) = (F a)[j]? := fun i => by
      by_cases hlt : i < len
      · obtain ⟨cs', hc', ht⟩ := hi i (by omega)
        rw [hc] at hc'
        obtain ⟨_, _, hat⟩ := World.cells?_some hc'
        obtain ⟨a, rfl, hG, hZ⟩ := E ht
        exact ⟨a, fun _ => ⟨hG, hZ, fun j hj => hat j hj⟩⟩
      · exact ⟨a0, fun h => absurd h hlt⟩
    let B := fun i => Classical.choose (hel i)
    have hB : ∀ i, i < len → G (B i) ∧ (SzT e (D i) → Z (B i)) ∧ ∀ j, j < k → w.cell? ((x.add (i * k)).add j) = (F (B i))[j]? := fun i => Classical.choose_spec (hel i)
    have hlen : ((List.range len).map B).length = len := by simp
    refine ⟨some x, cap, (List.range len).map B, by rw [hlen], by rw [hlen]; exact hl, hm, fun _ => ⟨x, rfl, fun j u hj => ?_⟩, ?_, fun hz => ⟨?_, ?_⟩⟩
    · have hjl : j < len * k := by
        have := (List.getElem?_eq_some_iff.1 hj).1
        rw [flat_len hk, hlen] at this; exact this
      have hq : j / k < len := Nat.div_lt_of_lt_mul (by rw [Nat.mul_comm]; exact hjl)
      have hr : j % k < k := Nat.mod_lt _ hk1
      have hj2 : j = j / k * k + j % k := by rw [Nat.mul_comm]; exact (Nat.div_add_mod j k).symm
      rw [hj2, flat_get hk (l := (List.range len).map B) (i := j / k) (a := B (j / k)) (by simp [hq]) _ hr] at hj
      rw [hj2, ← Addr.add_add, (hB _ hq).2.2 _ hr, hj]
    · intro b hb
      simp at hb
      obtain ⟨i, hi, rfl⟩ := hb
      exact (hB i hi).1
    · intro b hb
      simp at hb
      obtain ⟨i, hi, rfl⟩ := hb
      refine (hB i hi).2.1 ?_
      have hx1 : d = .slice ((List.range len).map D) ((List.range (m - len)).map fun j => D (len + j)) := congrArg Prod.fst hx
      rw [hx1] at hz
      exact hz.elem hu (List.mem_map.2 ⟨i, by simp [hi], rfl⟩)
    · rw [hlen]
      have hx1 : d = .slice ((List.range len).map D) ((List.range (m - len)).map fun j => D (len + j)) := congrArg Prod.fst hx
      rw [hx1] at hz
      have := hz.len hu hb
      simp at this
      exact reach48 this
/-- A row of fields, with sizes. -/
theorem open_fldsz (hv : Value.okWide Tryz.prog w r b0 22 v) (h : DataW.Trod enc Tryz.prog w base spare held 22 v d p) :
    ∃ A c fs, v = .slice A fs.length c ∧ fs.length ≤ c ∧ c ≤ maxLen ∧ Rd w A (cellsF fs) ∧ (∀ f ∈ fs, f.s.size ≤ maxLen) ∧ (SzT 22 d → (∀ f ∈ fs, f.s.size ≤ 281474976710656) ∧ fs.length ≤ 281474976710656) :=
  open_row (⟨⟨#[]⟩, 0, 0⟩ : Fd) (k := 3) (fun _ => rfl) (by omega) Tryz.underlying22 (by kernel_rfl) (of_decide_eq_true (by kernel_rfl)) elem_fld hv h
/-- A row of numbers. -/
theorem open_intsz (hv : Value.okWide Tryz.prog w r b0 50 v) (h : DataW.Trod enc Tryz.prog w base spare held 50 v d p) :
    ∃ Q q qc, v = .slice Q q.length qc ∧ q.length ≤ qc ∧ qc ≤ maxLen ∧ Rd w Q (cellsI q) ∧ (SzT 50 d → q.length ≤ 281474976710656) := by
  obtain ⟨a, len, cap, rfl⟩ := okWide_slice Tryz.underlying50 hv
  obtain ⟨fuel, hf⟩ := h
  obtain ⟨Q, q, qc, e, h1, h2, hR, hz⟩ := elem_ints hf
  simp [Value.cells] at e
  obtain ⟨rfl, rfl, rfl⟩ := e
  exact ⟨_, q, _, rfl, h1, h2, hR, hz⟩
/-- what a change that came as an argument is -/
def ChG (w : World) (x : Ch × Value) : Prop := (-9223372036854775808 ≤ x.1.op ∧ x.1.op ≤ 9223372036854775807) ∧ (0 ≤ x.1.d.b ∧ x.1.d.b < 18446744073709551616) ∧ ChO w x
/-- A row of changes. -/
theorem open_chgs (hv : Value.okWide Tryz.prog w r b0 23 v) (h : DataW.Trod enc Tryz.prog w base spare held 23 v d p) :
    ∃ A c cs, v = .slice A cs.length c ∧ cs.length ≤ c ∧ c ≤ maxLen ∧ Rd w A (cellsC cs) ∧ (∀ x ∈ cs, ChG w x) ∧ (SzT 23 d → (∀ x ∈ cs, ChS x) ∧ cs.length ≤ 281474976710656) :=
  open_row (⟨⟨0, ⟨#[]⟩, ⟨⟨#[]⟩, 0, 0⟩, ⟨0, 0, ⟨#[]⟩⟩, []⟩, .slice none 0 0⟩ : Ch × Value) (k := 9) (F := fun x => chL x.1 x.2) (fun _ => rfl) (by omega) Tryz.underlying23 (by kernel_rfl) (of_decide_eq_true (by kernel_rfl))
    (fun ht => by
      obtain ⟨c, Q, qc, e, h1, h2, h3, h4, h5, h6⟩ := elem_chg ht
      exact ⟨(c, .slice Q c.q.length qc), e, ⟨h1, h2, Q, qc, rfl, h3, h4, h5⟩, h6⟩) hv h
/-- A change. -/
theorem open_chg (hv : Value.okWide Tryz.prog w r b0 52 v) (h : DataW.Trod enc Tryz.prog w base spare held 52 v d p) :
    ∃ (c : Ch) (Q : Option Addr) (qc : Nat), v = .agg (chL c (.slice Q c.q.length qc)).toArray ∧ ((-9223372036854775808 ≤ c.op ∧ c.op ≤ 9223372036854775807) ∧ (0 ≤ c.d.b ∧ c.d.b < 18446744073709551616) ∧ c.q.length ≤ qc ∧ qc ≤ maxLen ∧ Rd w Q (cellsI c.q)) ∧
      (SzT 52 d → c.s.size ≤ 281474976710656 ∧ c.g.s.size ≤ 281474976710656 ∧ c.d.t.size ≤ 281474976710656 ∧ c.q.length ≤ 281474976710656) := by
  obtain ⟨cs, rfl, hsz⟩ := okWide_struct Tryz.underlying52 hv
  obtain ⟨fuel, hf⟩ := h
  obtain ⟨c, Q, qc, e, h1, h2, h3, h4, h5, h6⟩ := elem_chg hf
  refine ⟨c, Q, qc, ?_, ⟨h1, h2, h3, h4, h5⟩, h6⟩
  simp only [Value.cells] at e
  rw [← e]
end
end Go.Proofs.YtehcpjodkadfnaaGreat
/- Arguments of laws, opened: rows of values. -/
set_option linter.unusedSimpArgs false
set_option linter.unusedVariables false
set_option maxRecDepth 100000
namespace Go.Proofs.YtehcpjodkadfnaaGreat
open Go.ChangeShapes Go.WideShapes Go.ChangeAt Go.RowKit Go.Joins Go.Deep
open Go.ChangeMaps (open_string shut_string)

section
variable {H : Type} {enc : TypeId × Value → H} {w : World} {base b0 : Nat} {r : Reach} {spare : Nat → Bool} {held : Bool} {v : Value} {d : DataW H} {p : List MemPlace}

/-- A row of values. -/
theorem open_vals (hv : Value.okWide Tryz.prog w r b0 24 v) (h : DataW.Trod enc Tryz.prog w base spare held 24 v d p) :
    ∃ A c vs, v = .slice A vs.length c ∧ vs.length ≤ c ∧ c ≤ maxLen ∧ Rd w A (cellsVl vs) ∧ ∀ v ∈ vs, 0 ≤ v.b ∧ v.b < 18446744073709551616 ∧ v.t.size ≤ maxLen := by
  obtain ⟨a, len, cap, rfl⟩ := okWide_slice Tryz.underlying24 hv
  obtain ⟨fuel, hf⟩ := h
  have c3 : Tryz.prog.cellsOf 33 = 3 := by kernel_rfl
  rcases open_slice Tryz.underlying24 hf with ⟨hcs, _⟩ | ⟨x, l, c, m, n, D, Pl, hcs, _, hl, hm, hmm, _, hi⟩
  · simp [Value.cells] at hcs
    obtain ⟨rfl, rfl, rfl⟩ := hcs
    exact ⟨none, 0, [], rfl, Nat.le_refl _, Nat.zero_le _, Rd.nil _ _, by simp⟩
  · simp [Value.cells] at hcs
    obtain ⟨rfl, rfl, rfl⟩ := hcs
    have hlm : len ≤ m := by rw [hmm]; split <;> omega
    have hel : ∀ i, ∃ f : Vl, i < len → (0 ≤ f.b ∧ f.b < 18446744073709551616 ∧ f.t.size ≤ maxLen) ∧ w.cell? (x.add (i * 3)) = some (.int .i64 f.k) ∧ w.cell? (x.add (i * 3 + 1)) = some (.int .u64 f.b) ∧ w.cell? (x.add (i * 3 + 2)) = some (.string f.t) := fun i => by
      by_cases hlt : i < len
      · obtain ⟨cs', hc, ht⟩ := hi i (by omega)
        rw [c3] at hc
        obtain ⟨_, _, hat⟩ := World.cells?_some hc
        obtain ⟨c0, c1, c2, m', y0, y1, y2, rfl, h0, h1, h2⟩ := cells3 (t0 := 3) (t1 := 31) (t2 := 9) Tryz.underlying33 c3 ⟨rfl, rfl, by kernel_rfl⟩ ⟨rfl, rfl, by kernel_rfl⟩ ⟨rfl, rfl, by kernel_rfl⟩ ht
        obtain ⟨k, e0, rfl, w0⟩ := DataW.trod_int Tryz.underlying3 h0
        obtain ⟨b, e1, rfl, w1⟩ := DataW.trod_int Tryz.underlying31 h1
        obtain ⟨s, e2, rfl, w2⟩ := DataW.trod_string Tryz.underlying9 h2
        simp at e0 e1 e2
        subst e0 e1 e2
        refine ⟨⟨k, b, s⟩, fun _ => ⟨⟨(wf_u64 w1).1, (wf_u64 w1).2, w2⟩, ?_, ?_, ?_⟩⟩
        · have := hat 0 (by omega); rw [Addr.add_add] at this; exact this
        · have := hat 1 (by omega); rw [Addr.add_add] at this; exact this
        · have := hat 2 (by omega); rw [Addr.add_add] at this; exact this
      · exact ⟨⟨0, 0, ⟨#[]⟩⟩, fun h => absurd h hlt⟩
    let F := fun i => Classical.choose (hel i)
    have hF : ∀ i, i < len → (0 ≤ (F i).b ∧ (F i).b < 18446744073709551616 ∧ (F i).t.size ≤ maxLen) ∧ w.cell? (x.add (i * 3)) = some (.int .i64 (F i).k) ∧ w.cell? (x.add (i * 3 + 1)) = some (.int .u64 (F i).b) ∧ w.cell? (x.add (i * 3 + 2)) = some (.string (F i).t) := fun i => Classical.choose_spec (hel i)
    have hlen : ((List.range len).map F).length = len := by simp
    refine ⟨some x, cap, (List.range len).map F, by rw [hlen], by rw [hlen]; exact hl, hm, fun _ => ⟨x, rfl, fun j u hj => ?_⟩, ?_⟩
    · have hjl : j < 3 * len := by
        have := (List.getElem?_eq_some_iff.1 hj).1
        rw [cellsVl_length, hlen] at this; exact this
      obtain ⟨q, hq⟩ : ∃ q, j / 3 = q := ⟨_, rfl⟩
      have hql : q < len := by omega
      obtain ⟨g0, g1, g2⟩ := cellsVl_get (vs := (List.range len).map F) (i := q) (v := F q) (by simp [hql])
      obtain ⟨_, k0, k1, k2⟩ := hF q hql
      rcases (by omega : j = q * 3 ∨ j = q * 3 + 1 ∨ j = q * 3 + 2) with e | e | e
      · subst e; rw [g0] at hj; cases hj; exact k0
      · subst e; rw [g1] at hj; cases hj; exact k1
      · subst e; rw [g2] at hj; cases hj; exact k2
    · intro f hf
      simp at hf
      obtain ⟨i, hi, rfl⟩ := hf
      exact (hF i hi).1
end
end Go.Proofs.YtehcpjodkadfnaaGreat
