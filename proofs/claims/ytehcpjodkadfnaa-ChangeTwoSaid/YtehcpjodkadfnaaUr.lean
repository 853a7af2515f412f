/- Merged out of: Ne. -/
import Derived.Test.YtehcpjodkadfnaaUq
import Derived.Deep.RegionLaw
import Derived.Deep.MidRow
import Derived.ChangeKeysEq
import Derived.Lib.SliceRun
import Derived.Laws.IdiomCopy
/- Rows of structs: one element is struck by slices.Delete. -/
set_option linter.unusedSimpArgs false
set_option linter.unusedVariables false
set_option maxRecDepth 100000
namespace Go.Proofs.Ytehcpjodkadfnaa
open Go.RowKit Go.Lib

/-- the cells of a block behind stores in a row -/
theorem setCells_at (g : Nat) (e : TypeId) (fr : Nat × Nat) : ∀ (vs : List Value) (o : Nat) (w : World) (cur : Array Value), w.heap[g]? = some (.cells cur e fr) → o + vs.length ≤ cur.size →
    ∃ cur', (w.setCells g o vs).heap[g]? = some (.cells cur' e fr) ∧ cur'.toList = cur.toList.take o ++ vs ++ cur.toList.drop (o + vs.length)
  | [], o, w, cur, hg, _ => ⟨cur, hg, by simp⟩
  | v :: r, o, w, cur, hg, hl => by
    simp only [List.length_cons] at hl
    have h1 : (w.setCell ⟨g, o, none⟩ v).heap[g]? = some (.cells (cur.setIfInBounds o v) e fr) := by
      obtain ⟨hlt, hk⟩ := Array.getElem?_eq_some_iff.1 hg
      show (w.heap.modify g _)[g]? = _
      rw [Array.getElem?_eq_getElem (by rw [Array.size_modify]; exact hlt), Array.getElem_modify_self, hk]
      simp
    obtain ⟨cur', h2, h3⟩ := setCells_at g e fr r (o + 1) _ _ h1 (by simp; omega)
    refine ⟨cur', h2, h3.trans ?_⟩
    simp only [Array.toList_setIfInBounds]
    have hol : o < cur.toList.length := by simp; omega
    have e1 : (cur.toList.set o v).take (o + 1) = cur.toList.take o ++ [v] := by
      rw [List.take_add_one, List.take_set_of_le (Nat.le_refl _)]
      simp [List.getElem?_set_self, hol, show o < cur.size by omega]
    have e2 : (cur.toList.set o v).drop (o + 1 + r.length) = cur.toList.drop (o + 1 + r.length) := by
      rw [List.drop_set_of_lt (by omega)]
    rw [e1, e2, List.length_cons, show o + (r.length + 1) = o + 1 + r.length by omega]
    simp
theorem grown_setCells {w : World} {g : Nat} : ∀ (vs : List Value) (o : Nat) (W : World), w.grownBy W (some g) → w.grownBy (W.setCells g o vs) (some g)
  | [], _, _, h => h
  | v :: r, o, W, h => grown_setCells r (o + 1) (W.setCell ⟨g, o, none⟩ v) ⟨h.os, h.tape, h.output, by simpa [World.setCell] using h.size, fun k hk hne => (Below.heap_setCell _ _ _ _ (by rintro rfl; exact hne rfl)).trans (h.block k hk hne)⟩
theorem run_clear_one {P : Program} (w : World) (t e ty : TypeId) (z : Value) (zc : List Value) (ht : P.underlying t = some (.slice e)) (hv : ∀ w, (zeroValue e).run P w = .ok z w) (hz : z.cells.toList = zc) (h0 : 0 < zc.length) (h1 : ∀ u ∈ zc, u.oneCell' = true) (b o c : Nat)
    (hc : ∀ j, j < zc.length → (w.cell? ⟨b, o + j, none⟩).isSome = true) (hf : ∀ j, j < zc.length → w.frozen? ⟨b, o + j, none⟩ = false) :
    (Builtin.clear_ #[t] ty #[.slice (some ⟨b, o, none⟩) 1 c]).run P w = .ok (.tuple #[]) (w.setCells b o zc) := by
  have hzc : (Builtin.zeroCells z.cells 1).toList = zc := by
    rw [← hz]
    simp [Builtin.zeroCells]
    apply List.ext_getElem
    · simp
    · intro i h1 h2
      simp at h1
      simp [Nat.mod_eq_of_lt h1, h1]
  have hst := run_storeCells_cells (P := P) b o zc 0 w (by simpa using hc) (by simpa using hf) h1
  simp only [Nat.add_zero] at hst
  simp [Builtin.clear_, run_underlying ht, hv, hzc, hst]
/-- the row behind: its cells -/
theorem own_struck {w : World} {base g cap N i K : Nat} {T : TypeId} {xs news zc : List Value} {cur : Array Value} (hbase : base ≤ g) (hg : w.heap[g]? = some (.cells cur T (0, 0))) (hc : N + 1 ≤ cap) (hm : cap ≤ maxLen) (hs : cur.size = cap * K) (ht : cur.toList.take ((N + 1) * K) = xs) (hi : i ≤ N)
    (hn : news = xs.drop ((i + 1) * K)) (hz : zc.length = K) :
    ((w.setCells g (i * K) news).setCells g (N * K) zc).ownsRow base T K (.slice (some ⟨g, 0, none⟩) N cap) N (xs.take (i * K) ++ xs.drop ((i + 1) * K)) := by
  have m1 : (N + 1) * K = N * K + K := by rw [Nat.add_mul]; omega
  have m2 : (i + 1) * K = i * K + K := by rw [Nat.add_mul]; omega
  have m3 : (N + 1) * K ≤ cap * K := Nat.mul_le_mul_right K hc
  have m4 : i * K ≤ N * K := Nat.mul_le_mul_right K hi
  have hxl : xs.length = (N + 1) * K := by rw [← ht, List.length_take, Array.length_toList]; omega
  have hnl : news.length = N * K - i * K := by rw [hn, List.length_drop]; omega
  obtain ⟨cur1, h1, e1⟩ := setCells_at g T (0, 0) news (i * K) w cur hg (by omega)
  have hl1 : cur1.size = cap * K := by
    have := congrArg List.length e1
    simp only [Array.length_toList, List.length_append, List.length_take, List.length_drop] at this
    omega
  obtain ⟨cur2, h2, e2⟩ := setCells_at g T (0, 0) zc (N * K) _ cur1 h1 (by omega)
  have hl2 : cur2.size = cap * K := by
    have := congrArg List.length e2
    simp only [Array.length_toList, List.length_append, List.length_take, List.length_drop] at this
    omega
  refine ⟨by rw [List.length_append, List.length_take, List.length_drop]; omega, .inr ⟨g, cap, cur2, rfl, hbase, h2, by omega, hm, hl2, ?_⟩⟩
  rw [e2, List.append_assoc, List.take_append_of_le_length (by rw [List.length_take, Array.length_toList]; omega), List.take_take, Nat.min_self, e1, List.take_append_of_le_length (by rw [List.length_append, List.length_take, Array.length_toList]; omega), List.take_of_length_le (by rw [List.length_append, List.length_take, Array.length_toList]; omega)]
  rw [← hn, ← ht, List.take_take, Nat.min_eq_left (by omega)]
set_option maxHeartbeats 4000000 in
theorem DeleteF_m (base g cap N i : Nat) (xs : List Value) (w : World) (ho : w.ownsRow base 24 3 (.slice (some ⟨g, 0, none⟩) (N + 1) cap) (N + 1) xs) (hone : ∀ u ∈ xs, u.oneCell' = true) (hi : i ≤ N) :
    Calls Try.prog 45 #[.slice (some ⟨g, 0, none⟩) (N + 1) cap, .int .i64 i, .int .i64 ((i : Int) + 1)] w fun e w' => e = .returned (.slice (some ⟨g, 0, none⟩) N cap) ∧ w'.ownsRow base 24 3 (.slice (some ⟨g, 0, none⟩) N cap) N (xs.take (i * 3) ++ xs.drop ((i + 1) * 3)) ∧ w.grownBy w' (some g) := by
  obtain ⟨i0, hi0, hz0, hz1, hz2⟩ := info_parts infoFd
  obtain ⟨hxl, h⟩ := ho
  rcases h with ⟨h, _⟩ | ⟨g', cap', cur, hv, hbase, hg, hc, hm, hs, ht⟩
  · cases h
  cases hv
  have hm' : cap ≤ 9223372036854775807 := by simp only [maxLen] at hm; omega
  have hcell : ∀ t, t < cap * 3 → (w.drew.cell? ⟨g, t, none⟩).isSome = true ∧ w.drew.frozen? ⟨g, t, none⟩ = false := fun t htl => by
    have hg' : w.drew.heap[g]? = some (.cells cur 24 (0, 0)) := hg
    refine ⟨?_, by simp [World.frozen?, hg']⟩
    simp [World.cell?, hg', show t < cur.size by omega]
  obtain ⟨news, hnews⟩ : ∃ news, news = xs.drop ((i + 1) * 3) := ⟨_, rfl⟩
  have hlen : news.length = (N - i) * 3 := by rw [hnews, List.length_drop, hxl]; omega
  have hget : ∀ t u, news[t]? = some u → w.drew.cell? ⟨g, (i + 1) * 3 + t, none⟩ = some u := by
    intro t u htu
    have hg' : w.drew.heap[g]? = some (.cells cur 24 (0, 0)) := hg
    rw [hnews, List.getElem?_drop, ← ht, List.getElem?_take] at htu
    split at htu
    · simp only [World.cell?, hg']
      simpa using htu
    · cases htu
  obtain ⟨A, hA, hsrc⟩ : ∃ A : Addr, (if cap = i + 1 then some (⟨g, 0, none⟩ : Addr) else some ⟨g, (i + 1) * 3, none⟩) = some A ∧ Hid (∀ t u, news[t]? = some u → w.drew.cell? (A.add t) = some u) := by
    by_cases h : cap = i + 1
    · refine ⟨⟨g, 0, none⟩, by simp [h], fun t u hu => ?_⟩
      have h0 : news.length = 0 := by rw [hlen]; omega
      rw [List.length_eq_zero_iff.1 h0] at hu
      simp at hu
    · refine ⟨⟨g, (i + 1) * 3, none⟩, by simp [h], fun t u hu => ?_⟩
      rw [Addr.add_lit]
      exact hget t u hu
  have s1 : Hid (news.length = (N - i) * 3) := hlen
  have s2 : Hid (∀ u ∈ news, u.oneCell' = true) := by
    intro u hu
    rw [hnews] at hu
    exact hone u (List.mem_of_mem_drop hu)
  have s3 : Hid (∀ t, t < news.length → (w.drew.cell? ⟨g, 0 + i * 3 + t, none⟩).isSome = true ∧ w.drew.frozen? ⟨g, 0 + i * 3 + t, none⟩ = false) := by
    intro t ht
    rw [hlen] at ht
    exact hcell _ (by omega)
  obtain ⟨W1, hW1⟩ : ∃ W1, W1 = w.drew.setCells g (0 + i * 3) news := ⟨_, rfl⟩
  have hown := own_struck (w := w.drew) (base := base) (g := g) (cap := cap) (N := N) (i := i) (K := 3) (T := 24) (xs := xs) (news := news) (zc := [.string ⟨#[]⟩, .int .i64 0, .int .i64 0]) (cur := cur) hbase hg hc hm hs ht hi hnews rfl
  have hgr := grown_setCells (w := w) (g := g) [.string ⟨#[]⟩, .int .i64 0, .int .i64 0] (N * 3) _ (grown_setCells news (i * 3) w.drew ⟨rfl, rfl, rfl, Nat.le_refl _, fun _ _ _ => rfl⟩)
  have hW1' : w.drew.setCells g (i * 3) news = W1 := by rw [hW1, Nat.zero_add]
  rw [hW1'] at hown hgr
  have hc1 : ∀ t, t < cap * 3 → (W1.cell? ⟨g, t, none⟩).isSome = true ∧ W1.frozen? ⟨g, t, none⟩ = false := fun t htl => by
    obtain ⟨c1, c2⟩ := hcell t htl
    rw [hW1]
    exact ⟨World.isSome_setCells g news _ _ _ c1, by rw [World.frozen?_setCells]; exact c2⟩
  have hcl : ∀ ty, (Builtin.clear_ #[22] ty #[.slice (some ⟨g, N * 3, none⟩) 1 (cap - N)]).run Try.prog W1 = .ok (.tuple #[]) (W1.setCells g (N * 3) [.string ⟨#[]⟩, .int .i64 0, .int .i64 0]) :=
    fun ty => run_clear_one W1 _ _ ty (.agg #[.string ⟨#[]⟩, .int .i64 0, .int .i64 0]) [.string ⟨#[]⟩, .int .i64 0, .int .i64 0] Try.underlying22 (fun _ => by simp only [zeroValue, Sem.run_bind, run_typeInfo _ hi0, Result.andThen_ok, hz0, Sem.run_pure]) rfl (by decide) (by intro u hu; simp at hu; rcases hu with rfl | rfl | rfl | rfl <;> rfl) g (N * 3) _ (fun t ht => by simp at ht; exact (hc1 _ (by omega)).1) (fun t ht => by simp at ht; exact (hc1 _ (by omega)).2)
  have hW : Hid (W1 = w.drew.setCells g (0 + i * 3) news) := hW1
  have hic : i ≤ cap := by omega
  have hjc : i + 1 ≤ cap := by omega
  have mixed : Try.prog.follows .mixedOrders = true := by kernel_rfl
  have hi1 : (0 : Int) ≤ (i : Int) + 1 := by omega
  have hN1 : i + (N - i) = N := by omega
  have hN2 : N + 1 - N = 1 := by omega
  clear hW1 hW1' hnews hget hlen hcell hc1
  go_enter Try.func45, Try.ntmps45
  go_wp2_with fail
  go_region_law_o (refine step_append_room rfl (.tmp 22) (.tmp 25) 22 rfl 24 i0 3 Try.underlying22 hi0 hz1 g 0 i cap (by simp [Act.eval, Act.put]) A (N - i) (cap - (i + 1)) news (by simp [Act.eval, Act.put]) s1.out hsrc.out s2.out (by omega) s3.out ?_; rw [← hW.out, hN1])
  go_wp2
  go_ret
  exact ⟨rfl, hown, hgr⟩
set_option maxHeartbeats 4000000 in
theorem DeleteM_m (base g cap N i : Nat) (xs : List Value) (w : World) (ho : w.ownsRow base 63 4 (.slice (some ⟨g, 0, none⟩) (N + 1) cap) (N + 1) xs) (hone : ∀ u ∈ xs, u.oneCell' = true) (hi : i ≤ N) :
    Calls Try.prog 46 #[.slice (some ⟨g, 0, none⟩) (N + 1) cap, .int .i64 i, .int .i64 ((i : Int) + 1)] w fun e w' => e = .returned (.slice (some ⟨g, 0, none⟩) N cap) ∧ w'.ownsRow base 63 4 (.slice (some ⟨g, 0, none⟩) N cap) N (xs.take (i * 4) ++ xs.drop ((i + 1) * 4)) ∧ w.grownBy w' (some g) := by
  obtain ⟨i0, hi0, hz0, hz1, hz2⟩ := info_parts infoMv
  obtain ⟨hxl, h⟩ := ho
  rcases h with ⟨h, _⟩ | ⟨g', cap', cur, hv, hbase, hg, hc, hm, hs, ht⟩
  · cases h
  cases hv
  have hm' : cap ≤ 9223372036854775807 := by simp only [maxLen] at hm; omega
  have hcell : ∀ t, t < cap * 4 → (w.drew.cell? ⟨g, t, none⟩).isSome = true ∧ w.drew.frozen? ⟨g, t, none⟩ = false := fun t htl => by
    have hg' : w.drew.heap[g]? = some (.cells cur 63 (0, 0)) := hg
    refine ⟨?_, by simp [World.frozen?, hg']⟩
    simp [World.cell?, hg', show t < cur.size by omega]
  obtain ⟨news, hnews⟩ : ∃ news, news = xs.drop ((i + 1) * 4) := ⟨_, rfl⟩
  have hlen : news.length = (N - i) * 4 := by rw [hnews, List.length_drop, hxl]; omega
  have hget : ∀ t u, news[t]? = some u → w.drew.cell? ⟨g, (i + 1) * 4 + t, none⟩ = some u := by
    intro t u htu
    have hg' : w.drew.heap[g]? = some (.cells cur 63 (0, 0)) := hg
    rw [hnews, List.getElem?_drop, ← ht, List.getElem?_take] at htu
    split at htu
    · simp only [World.cell?, hg']
      simpa using htu
    · cases htu
  obtain ⟨A, hA, hsrc⟩ : ∃ A : Addr, (if cap = i + 1 then some (⟨g, 0, none⟩ : Addr) else some ⟨g, (i + 1) * 4, none⟩) = some A ∧ Hid (∀ t u, news[t]? = some u → w.drew.cell? (A.add t) = some u) := by
    by_cases h : cap = i + 1
    · refine ⟨⟨g, 0, none⟩, by simp [h], fun t u hu => ?_⟩
      have h0 : news.length = 0 := by rw [hlen]; omega
      rw [List.length_eq_zero_iff.1 h0] at hu
      simp at hu
    · refine ⟨⟨g, (i + 1) * 4, none⟩, by simp [h], fun t u hu => ?_⟩
      rw [Addr.add_lit]
      exact hget t u hu
  have s1 : Hid (news.length = (N - i) * 4) := hlen
  have s2 : Hid (∀ u ∈ news, u.oneCell' = true) := by
    intro u hu
    rw [hnews] at hu
    exact hone u (List.mem_of_mem_drop hu)
  have s3 : Hid (∀ t, t < news.length → (w.drew.cell? ⟨g, 0 + i * 4 + t, none⟩).isSome = true ∧ w.drew.frozen? ⟨g, 0 + i * 4 + t, none⟩ = false) := by
    intro t ht
    rw [hlen] at ht
    exact hcell _ (by omega)
  obtain ⟨W1, hW1⟩ : ∃ W1, W1 = w.drew.setCells g (0 + i * 4) news := ⟨_, rfl⟩
  have hown := own_struck (w := w.drew) (base := base) (g := g) (cap := cap) (N := N) (i := i) (K := 4) (T := 63) (xs := xs) (news := news) (zc := [.int .i64 0, .int .i64 0, .int .u64 0, .string ⟨#[]⟩]) (cur := cur) hbase hg hc hm hs ht hi hnews rfl
  have hgr := grown_setCells (w := w) (g := g) [.int .i64 0, .int .i64 0, .int .u64 0, .string ⟨#[]⟩] (N * 4) _ (grown_setCells news (i * 4) w.drew ⟨rfl, rfl, rfl, Nat.le_refl _, fun _ _ _ => rfl⟩)
  have hW1' : w.drew.setCells g (i * 4) news = W1 := by rw [hW1, Nat.zero_add]
  rw [hW1'] at hown hgr
  have hc1 : ∀ t, t < cap * 4 → (W1.cell? ⟨g, t, none⟩).isSome = true ∧ W1.frozen? ⟨g, t, none⟩ = false := fun t htl => by
    obtain ⟨c1, c2⟩ := hcell t htl
    rw [hW1]
    exact ⟨World.isSome_setCells g news _ _ _ c1, by rw [World.frozen?_setCells]; exact c2⟩
  have hcl : ∀ ty, (Builtin.clear_ #[34] ty #[.slice (some ⟨g, N * 4, none⟩) 1 (cap - N)]).run Try.prog W1 = .ok (.tuple #[]) (W1.setCells g (N * 4) [.int .i64 0, .int .i64 0, .int .u64 0, .string ⟨#[]⟩]) :=
    fun ty => run_clear_one W1 _ _ ty (.agg #[.int .i64 0, .int .i64 0, .int .u64 0, .string ⟨#[]⟩]) [.int .i64 0, .int .i64 0, .int .u64 0, .string ⟨#[]⟩] Try.underlying34 (fun _ => by simp only [zeroValue, Sem.run_bind, run_typeInfo _ hi0, Result.andThen_ok, hz0, Sem.run_pure]) rfl (by decide) (by intro u hu; simp at hu; rcases hu with rfl | rfl | rfl | rfl <;> rfl) g (N * 4) _ (fun t ht => by simp at ht; exact (hc1 _ (by omega)).1) (fun t ht => by simp at ht; exact (hc1 _ (by omega)).2)
  have hW : Hid (W1 = w.drew.setCells g (0 + i * 4) news) := hW1
  have hic : i ≤ cap := by omega
  have hjc : i + 1 ≤ cap := by omega
  have mixed : Try.prog.follows .mixedOrders = true := by kernel_rfl
  have hi1 : (0 : Int) ≤ (i : Int) + 1 := by omega
  have hN1 : i + (N - i) = N := by omega
  have hN2 : N + 1 - N = 1 := by omega
  clear hW1 hW1' hnews hget hlen hcell hc1
  go_enter Try.func46, Try.ntmps46
  go_wp2_with fail
  go_region_law_o (refine step_append_room rfl (.tmp 22) (.tmp 25) 34 rfl 63 i0 4 Try.underlying34 hi0 hz1 g 0 i cap (by simp [Act.eval, Act.put]) A (N - i) (cap - (i + 1)) news (by simp [Act.eval, Act.put]) s1.out hsrc.out s2.out (by omega) s3.out ?_; rw [← hW.out, hN1])
  go_wp2
  go_ret
  exact ⟨rfl, hown, hgr⟩
end Go.Proofs.Ytehcpjodkadfnaa
