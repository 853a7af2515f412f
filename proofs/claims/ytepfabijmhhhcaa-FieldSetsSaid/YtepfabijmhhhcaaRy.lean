/- Arguments of laws, opened: rows of fields, rows of values. -/
import Derived.Test.YtepfabijmhhhcaaRw
import Derived.Test.YtepfabijmhhhcaaGv
import Derived.Deep.Slices
import Derived.ChangeSame
set_option linter.unusedSimpArgs false
set_option linter.unusedVariables false
namespace Go.Proofs.Ytepfabijmhhhcaa
open Go.ChangeShapes Go.WideShapes Go.ChangeAt Go.RowKit Go.Joins Go.Deep
open Go.ChangeMaps (open_string shut_string)

section
variable {H : Type} {enc : TypeId × Value → H} {w : World} {base b0 : Nat} {r : Reach} {spare : Nat → Bool} {held : Bool} {v : Value} {d : DataW H} {p : List MemPlace}

theorem cells3 {e : TypeId} {t0 t1 t2 : TypeId} {f0 f1 f2 : Field} {n : Nat} {cs : List Value} {x : DataW H × List MemPlace} (he : Try.prog.underlying e = some (.struct #[f0, f1, f2])) (hc : Try.prog.cellsOf e = 3)
    (h0 : f0.type = t0 ∧ f0.offset = 0 ∧ Try.prog.cellsOf t0 = 1) (h1 : f1.type = t1 ∧ f1.offset = 1 ∧ Try.prog.cellsOf t1 = 1) (h2 : f2.type = t2 ∧ f2.offset = 2 ∧ Try.prog.cellsOf t2 = 1)
    (h : DataW.trod enc Try.prog w base spare held n e cs = some x) :
    ∃ c0 c1 c2 m y0 y1 y2, cs = [c0, c1, c2] ∧ DataW.trod enc Try.prog w base spare held m t0 [c0] = some y0 ∧ DataW.trod enc Try.prog w base spare held m t1 [c1] = some y1 ∧ DataW.trod enc Try.prog w base spare held m t2 [c2] = some y2 := by
  obtain ⟨xs, m, _, hx, hl, hxl, hf⟩ := DataW.trod_struct he h
  obtain ⟨rfl, o0, k0⟩ := h0
  obtain ⟨rfl, o1, k1⟩ := h1
  obtain ⟨rfl, o2, k2⟩ := h2
  rw [hc] at hl
  obtain ⟨c0, c1, c2, rfl⟩ : ∃ a b c, cs = [a, b, c] := by
    match cs, hl with
    | [a, b, c], _ => exact ⟨a, b, c, rfl⟩
  obtain ⟨y0, y1, y2, rfl⟩ : ∃ a b c, xs = [a, b, c] := by
    match xs, hxl with
    | [a, b, c], _ => exact ⟨a, b, c, rfl⟩
  have g0 := hf 0 f0 rfl
  have g1 := hf 1 f1 rfl
  have g2 := hf 2 f2 rfl
  rw [o0, k0] at g0
  rw [o1, k1] at g1
  rw [o2, k2] at g2
  exact ⟨c0, c1, c2, m, y0, y1, y2, rfl, g0, g1, g2⟩
/-- A row of fields. -/
theorem open_flds (hv : Value.okWide Try.prog w r b0 22 v) (h : DataW.Trod enc Try.prog w base spare held 22 v d p) :
    ∃ A c fs, v = .slice A fs.length c ∧ fs.length ≤ c ∧ c ≤ maxLen ∧ Rd w A (cellsF fs) ∧ ∀ f ∈ fs, f.s.size ≤ maxLen := by
  obtain ⟨a, len, cap, rfl⟩ := okWide_slice Try.underlying22 hv
  obtain ⟨fuel, hf⟩ := h
  have c3 : Try.prog.cellsOf 40 = 3 := by kernel_rfl
  rcases open_slice Try.underlying22 hf with ⟨hcs, _⟩ | ⟨x, l, c, m, n, D, Pl, hcs, _, hl, hm, hmm, _, hi⟩
  · simp [Value.cells] at hcs
    obtain ⟨rfl, rfl, rfl⟩ := hcs
    exact ⟨none, 0, [], rfl, Nat.le_refl _, Nat.zero_le _, Rd.nil _ _, by simp⟩
  · simp [Value.cells] at hcs
    obtain ⟨rfl, rfl, rfl⟩ := hcs
    have hlm : len ≤ m := by rw [hmm]; split <;> omega
    have hel : ∀ i, ∃ f : Fd, i < len → f.s.size ≤ maxLen ∧ w.cell? (x.add (i * 3)) = some (.string f.s) ∧ w.cell? (x.add (i * 3 + 1)) = some (.int .i64 f.k) ∧ w.cell? (x.add (i * 3 + 2)) = some (.int .i64 f.l) := fun i => by
      by_cases hlt : i < len
      · obtain ⟨cs', hc, ht⟩ := hi i (by omega)
        rw [c3] at hc
        obtain ⟨_, _, hat⟩ := World.cells?_some hc
        obtain ⟨c0, c1, c2, m', y0, y1, y2, rfl, h0, h1, h2⟩ := cells3 (t0 := 9) (t1 := 3) (t2 := 3) Try.underlying40 c3 ⟨rfl, rfl, by kernel_rfl⟩ ⟨rfl, rfl, by kernel_rfl⟩ ⟨rfl, rfl, by kernel_rfl⟩ ht
        obtain ⟨s, e0, rfl, w0⟩ := DataW.trod_string Try.underlying9 h0
        obtain ⟨k, e1, rfl, w1⟩ := DataW.trod_int Try.underlying3 h1
        obtain ⟨l, e2, rfl, w2⟩ := DataW.trod_int Try.underlying3 h2
        simp at e0 e1 e2
        subst e0 e1 e2
        refine ⟨⟨s, k, l⟩, fun _ => ⟨w0, ?_, ?_, ?_⟩⟩
        · have := hat 0 (by omega); rw [Addr.add_add] at this; exact this
        · have := hat 1 (by omega); rw [Addr.add_add] at this; exact this
        · have := hat 2 (by omega); rw [Addr.add_add] at this; exact this
      · exact ⟨⟨⟨#[]⟩, 0, 0⟩, fun h => absurd h hlt⟩
    let F := fun i => Classical.choose (hel i)
    have hF : ∀ i, i < len → (F i).s.size ≤ maxLen ∧ w.cell? (x.add (i * 3)) = some (.string (F i).s) ∧ w.cell? (x.add (i * 3 + 1)) = some (.int .i64 (F i).k) ∧ w.cell? (x.add (i * 3 + 2)) = some (.int .i64 (F i).l) := fun i => Classical.choose_spec (hel i)
    have hlen : ((List.range len).map F).length = len := by simp
    refine ⟨some x, cap, (List.range len).map F, by rw [hlen], by rw [hlen]; exact hl, hm, fun _ => ⟨x, rfl, fun j u hj => ?_⟩, ?_⟩
    · have hjl : j < 3 * len := by
        have := (List.getElem?_eq_some_iff.1 hj).1
        rw [cellsF_length, hlen] at this; exact this
      obtain ⟨q, hq⟩ : ∃ q, j / 3 = q := ⟨_, rfl⟩
      have hql : q < len := by omega
      obtain ⟨g0, g1, g2⟩ := cellsF_get ((List.range len).map F) q (F q) (by simp [hql])
      obtain ⟨_, k0, k1, k2⟩ := hF q hql
      rcases (by omega : j = q * 3 ∨ j = q * 3 + 1 ∨ j = q * 3 + 2) with e | e | e
      · subst e; rw [g0] at hj; cases hj; exact k0
      · subst e; rw [g1] at hj; cases hj; exact k1
      · subst e; rw [g2] at hj; cases hj; exact k2
    · intro f hf
      simp at hf
      obtain ⟨i, hi, rfl⟩ := hf
      exact (hF i hi).1
end
end Go.Proofs.Ytepfabijmhhhcaa
