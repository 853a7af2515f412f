/- Arguments of laws, opened: rows of values. -/
import Derived.Test.YtepfabijmhhhcaaRy
import Derived.Test.YtepfabijmhhhcaaHc
set_option linter.unusedSimpArgs false
set_option linter.unusedVariables false
namespace Go.Proofs.Ytepfabijmhhhcaa
open Go.ChangeShapes Go.WideShapes Go.ChangeAt Go.RowKit Go.Joins Go.Deep
open Go.ChangeMaps (open_string shut_string)

section
variable {H : Type} {enc : TypeId × Value → H} {w : World} {base b0 : Nat} {r : Reach} {spare : Nat → Bool} {held : Bool} {v : Value} {d : DataW H} {p : List MemPlace}

/-- A row of values. -/
theorem open_vals (hv : Value.okWide Try.prog w r b0 51 v) (h : DataW.Trod enc Try.prog w base spare held 51 v d p) :
    ∃ A c vs, v = .slice A vs.length c ∧ vs.length ≤ c ∧ c ≤ maxLen ∧ Rd w A (cellsVl vs) ∧ ∀ v ∈ vs, 0 ≤ v.b ∧ v.b < 18446744073709551616 ∧ v.t.size ≤ maxLen := by
  obtain ⟨a, len, cap, rfl⟩ := okWide_slice Try.underlying51 hv
  obtain ⟨fuel, hf⟩ := h
  have c3 : Try.prog.cellsOf 37 = 3 := by kernel_rfl
  rcases open_slice Try.underlying51 hf with ⟨hcs, _⟩ | ⟨x, l, c, m, n, D, Pl, hcs, _, hl, hm, hmm, _, hi⟩
  · simp [Value.cells] at hcs
    obtain ⟨rfl, rfl, rfl⟩ := hcs
    exact ⟨none, 0, [], rfl, Nat.le_refl _, Nat.zero_le _, Rd.nil _ _, by simp⟩
  · simp [Value.cells] at hcs
    obtain ⟨rfl, rfl, rfl⟩ := hcs
    have hlm : len ≤ m := by rw [hmm]; split <;> omega
    have hel : ∀ i, ∃ f : Vl, i < len → (0 ≤ f.b ∧ f.b < 18446744073709551616 ∧ f.t.size ≤ maxLen) ∧ w.cell? (x.add (i * 3)) = some (.int .i64 f.k) ∧ w.cell? (x.add (i * 3 + 1)) = some (.int .u64 f.b) ∧ w.cell? (x.add (i * 3 + 2)) = some (.string f.t) := fun i => by
      by_cases hlt : i < len
      · obtain ⟨cs', hc, ht⟩ := hi i (by omega)
        rw [c3] at hc
        obtain ⟨_, _, hat⟩ := World.cells?_some hc
        obtain ⟨c0, c1, c2, m', y0, y1, y2, rfl, h0, h1, h2⟩ := cells3 (t0 := 3) (t1 := 35) (t2 := 9) Try.underlying37 c3 ⟨rfl, rfl, by kernel_rfl⟩ ⟨rfl, rfl, by kernel_rfl⟩ ⟨rfl, rfl, by kernel_rfl⟩ ht
        obtain ⟨k, e0, rfl, w0⟩ := DataW.trod_int Try.underlying3 h0
        obtain ⟨b, e1, rfl, w1⟩ := DataW.trod_int Try.underlying35 h1
        obtain ⟨s, e2, rfl, w2⟩ := DataW.trod_string Try.underlying9 h2
        simp at e0 e1 e2
        subst e0 e1 e2
        refine ⟨⟨k, b, s⟩, fun _ => ⟨⟨(wf_u64 w1).1, (wf_u64 w1).2, w2⟩, ?_, ?_, ?_⟩⟩
        · have := hat 0 (by omega); rw [Addr.add_add] at this; exact this
        · have := hat 1 (by omega); rw [Addr.add_add] at this; exact this
        · have := hat 2 (by omega); rw [Addr.add_add] at this; exact this
      · exact ⟨⟨0, 0, ⟨#[]⟩⟩, fun h => absurd h hlt⟩
    let F := fun i => Classical.choose (hel i)
    have hF : ∀ i, i < len → (0 ≤ (F i).b ∧ (F i).b < 18446744073709551616 ∧ (F i).t.size ≤ maxLen) ∧ w.cell? (x.add (i * 3)) = some (.int .i64 (F i).k) ∧ w.cell? (x.add (i * 3 + 1)) = some (.int .u64 (F i).b) ∧ w.cell? (x.add (i * 3 + 2)) = some (.string (F i).t) := fun i => Classical.choose_spec (hel i)
    have hlen : ((List.range len).map F).length = len := by simp
    refine ⟨some x, cap, (List.range len).map F, by rw [hlen], by rw [hlen]; exact hl, hm, fun _ => ⟨x, rfl, fun j u hj => ?_⟩, ?_⟩
    · have hjl : j < 3 * len := by
        have := (List.getElem?_eq_some_iff.1 hj).1
        rw [cellsVl_length, hlen] at this; exact this
      obtain ⟨q, hq⟩ : ∃ q, j / 3 = q := ⟨_, rfl⟩
      have hql : q < len := by omega
      obtain ⟨g0, g1, g2⟩ := cellsVl_get (vs := (List.range len).map F) (i := q) (v := F q) (by simp [hql])
      obtain ⟨_, k0, k1, k2⟩ := hF q hql
      rcases (by omega : j = q * 3 ∨ j = q * 3 + 1 ∨ j = q * 3 + 2) with e | e | e
      · subst e; rw [g0] at hj; cases hj; exact k0
      · subst e; rw [g1] at hj; cases hj; exact k1
      · subst e; rw [g2] at hj; cases hj; exact k2
    · intro f hf
      simp at hf
      obtain ⟨i, hi, rfl⟩ := hf
      exact (hF i hi).1
end
end Go.Proofs.Ytepfabijmhhhcaa
