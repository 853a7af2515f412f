/- Merged out of: Na Nb. -/
import Derived.Test.YtehcpjodkadfnaaGreatUo
/- Layer 8 of the heap, changes, in plain words: what a change makes of fields; tables one behind the other. -/
set_option linter.unusedSimpArgs false
set_option linter.unusedVariables false
set_option maxRecDepth 100000
namespace Go.Proofs.YtehcpjodkadfnaaGreat
open Go.RowKit

/-- a change -/
structure Ch where
  op : Int
  s : ByteArray
  g : Fd
  d : Vl
  q : List Int
def rng (n : Nat) : List Int := (List.range n).map fun k : Nat => (k : Int)
theorem rng_succ (n : Nat) : rng (n + 1) = rng n ++ [(n : Int)] := by simp [rng, List.range_succ]
theorem rng_length (n : Nat) : (rng n).length = n := by simp [rng]
theorem mem_rng {n : Nat} {x : Int} : x ∈ rng n ↔ 0 ≤ x ∧ x < n := by
  simp only [rng, List.mem_map, List.mem_range]
  constructor
  · rintro ⟨k, hk, rfl⟩; omega
  · rintro ⟨h0, h1⟩; exact ⟨x.toNat, by omega, by omega⟩
/-- are numbers all from 0 on, each once? -/
def permB (q : List Int) (n : Nat) : Bool := decide (q.Perm (rng n))
theorem perm_of_all (n : Nat) : ∀ q : List Int, q.length = n → (∀ k : Nat, k < n → (k : Int) ∈ q) → q.Perm (rng n) := by
  induction n with
  | zero => intro q hq _; rw [List.eq_nil_of_length_eq_zero hq]; exact List.Perm.refl _
  | succ n ih =>
    intro q hq h
    have hn := h n (by omega)
    have h1 := List.perm_cons_erase hn
    have h2 := ih (q.erase n) (by rw [List.length_erase_of_mem hn]; omega) (fun k hk => (List.mem_erase_of_ne (by omega)).2 (h k (by omega)))
    rw [rng_succ]
    exact h1.trans ((List.Perm.cons _ h2).trans (List.perm_append_singleton _ _).symm)
theorem perm_mem {q : List Int} {n : Nat} (h : permB q n = true) {x : Int} (hx : x ∈ q) : 0 ≤ x ∧ x < n := mem_rng.1 ((of_decide_eq_true h).mem_iff.1 hx)
theorem perm_len {q : List Int} {n : Nat} (h : permB q n = true) : q.length = n := by rw [(of_decide_eq_true h).length_eq, rng_length]
/-- where the named field stands -/
def atC (l : List Fd) (c : Ch) : Nat := (findZ l c.s).toNat
/-- the new fields -/
def newF (l : List Fd) (c : Ch) : List Fd :=
  if c.op = 1 then l ++ [c.g]
  else if c.op = 2 then l.eraseIdx (atC l c)
  else if c.op = 3 then l.modify (atC l c) fun f => ⟨c.g.s, f.k, f.l⟩
  else if c.op = 4 then l.modify (atC l c) fun f => ⟨f.s, c.g.k, c.g.l⟩
  else c.q.map fun n => (l[n.toNat]?).getD Fd.z
/-- where they come from -/
def newM (l : List Fd) (c : Ch) : List Mv :=
  if c.op = 1 then kM l.length ++ [⟨-1, c.d⟩]
  else if c.op = 2 then (kM l.length).eraseIdx (atC l c)
  else if c.op = 5 then c.q.map fun n => ⟨n, Vl.z⟩
  else kM l.length
def castsAt (l : List Fd) (c : Ch) : Bool := match l[atC l c]? with | some f => castsB f.k f.l c.g.k c.g.l | none => false
def okVal (c : Ch) : Bool := rightB c.d.k c.d.b c.d.t c.g.k c.g.l && (decide (c.g.k ≠ 11) || decide (c.d.b = 0))
/-- the error ahead of the last question -/
def stepE (l : List Fd) (c : Ch) : Int :=
  if rightF l = false then 60
  else if ¬ (1 ≤ c.op ∧ c.op ≤ 5) then 80
  else if 2 ≤ c.op ∧ c.op ≤ 4 ∧ findZ l c.s < 0 then 61
  else if c.op = 1 ∧ okVal c = false then 80
  else if c.op = 4 ∧ castsAt l c = false then 80
  else if c.op = 5 ∧ permB c.q l.length = false then 80
  else 0
def tabC (l : List Fd) (c : Ch) : Tb := ⟨l, newF l c, newM l c⟩
def Tb.z : Tb := ⟨[], [], []⟩
def makeE (l : List Fd) (c : Ch) : Int := if stepE l c = 0 then (if rightF (newF l c) = true then 0 else 80) else stepE l c
def makeT (l : List Fd) (c : Ch) : Tb := if makeE l c = 0 then tabC l c else Tb.z

theorem casts_refl {k l : Int} (h : mayB k l = true) : castsB k l k l = true := by
  have : ¬ longZ k l = 0 := by rw [long_zero]; simp [h]
  simp [castsB, this]
theorem rightF_at {l : List Fd} (h : rightF l = true) {j : Nat} {f : Fd} (hf : l[j]? = some f) : castsB f.k f.l f.k f.l = true := casts_refl (rightF_ok h hf).2.1
theorem okMv_keep {o : List Fd} {g f : Fd} {i : Int} (h0 : 0 ≤ i) (hf : o[i.toNat]? = some f) (hc : castsB f.k f.l g.k g.l = true) : okMv o g ⟨i, Vl.z⟩ = true := by
  rw [okMv, if_neg (by show ¬ i = -1; omega)]
  simp [h0, hf, hc]
theorem kM_get {n j : Nat} (h : j < n) : (kM n)[j]? = some ⟨(j : Int), Vl.z⟩ := by simp [kM, h]
theorem kM_none {n j : Nat} (h : n ≤ j) : (kM n)[j]? = none := by rw [List.getElem?_eq_none]; rw [kM_length]; exact h
theorem okAt_mk {t : Tb} {k : Nat} {m : Mv} {g : Fd} (hm : t.m[k]? = some m) (hg : t.n[k]? = some g) : okAt t k = okMv t.o g m := by simp [okAt, hm, hg]
theorem rightT_iff {t : Tb} : rightT t = true ↔ rightF t.o = true ∧ rightF t.n = true ∧ t.m.length = t.n.length ∧ ∀ k, k < t.m.length → okAt t k = true := by
  simp only [rightT, Bool.and_eq_true, decide_eq_true_eq, and_assoc]
/-- the table that changes nothing is right -/
theorem keep_right {l : List Fd} (h : rightF l = true) : rightT ⟨l, l, kM l.length⟩ = true := by
  rw [rightT_iff]
  refine ⟨h, h, kM_length _, fun k hk => ?_⟩
  rw [kM_length] at hk
  have hf : l[k]? = some (l[k]'hk) := List.getElem?_eq_getElem hk
  rw [okAt_mk (kM_get hk) hf]
  exact okMv_keep (by omega) (by rw [Int.toNat_natCast]; exact hf) (rightF_at h hf)
theorem keepT_right {l : List Fd} (h : rightF l = true) : keepT l = ⟨l, l, kM l.length⟩ := by rw [keepT, if_pos h]; rfl
theorem atC_lt {l : List Fd} {c : Ch} (h : ¬ findZ l c.s < 0) : atC l c < l.length := by
  have := findZ_ge l c.s; unfold atC; omega
/-- the parts of what a change makes are alike long, and each move may be -/
theorem tabC_ok {l : List Fd} {c : Ch} (hr : rightF l = true) (h1 : 1 ≤ c.op ∧ c.op ≤ 5) (h2 : 2 ≤ c.op ∧ c.op ≤ 4 → ¬ findZ l c.s < 0) (h4 : c.op = 4 → castsAt l c = true) (h5 : c.op = 5 → permB c.q l.length = true) :
    (newM l c).length = (newF l c).length ∧ ∀ k, k < (newM l c).length → okAt (tabC l c) k = (if c.op = 1 ∧ k = l.length then okVal c else true) := by
  rcases (by omega : c.op = 1 ∨ c.op = 2 ∨ c.op = 3 ∨ c.op = 4 ∨ c.op = 5) with e | e | e | e | e
  · have eF : newF l c = l ++ [c.g] := by simp [newF, e]
    have eM : newM l c = kM l.length ++ [⟨-1, c.d⟩] := by simp [newM, e]
    refine ⟨by rw [eF, eM]; simp [kM_length], fun k hk => ?_⟩
    rw [eM] at hk
    simp [kM_length] at hk
    by_cases hl : k = l.length
    · rw [if_pos ⟨e, hl⟩, okAt_mk (t := tabC l c) (m := ⟨-1, c.d⟩) (g := c.g) (by show (newM l c)[k]? = _; rw [eM, List.getElem?_append_right (by rw [kM_length]; omega)]; simp [kM_length, hl]) (by show (newF l c)[k]? = _; rw [eF]; simp [hl])]
      rw [okMv, if_pos rfl]; rfl
    · rw [if_neg (fun h => hl h.2)]
      have hk' : k < l.length := by omega
      have hf : l[k]? = some (l[k]'hk') := List.getElem?_eq_getElem hk'
      rw [okAt_mk (t := tabC l c) (m := ⟨k, Vl.z⟩) (g := l[k]'hk') (by show (newM l c)[k]? = _; rw [eM, List.getElem?_append_left (by rw [kM_length]; omega)]; exact kM_get hk') (by show (newF l c)[k]? = _; rw [eF, List.getElem?_append_left hk']; exact hf)]
      exact okMv_keep (by omega) (by show l[((k : Nat) : Int).toNat]? = _; rw [Int.toNat_natCast]; exact hf) (rightF_at hr hf)
  · have hx := atC_lt (h2 (by omega))
    have eF : newF l c = l.eraseIdx (atC l c) := by simp [newF, e]
    have eM : newM l c = (kM l.length).eraseIdx (atC l c) := by simp [newM, e]
    refine ⟨by rw [eF, eM, List.length_eraseIdx_of_lt (by rw [kM_length]; exact hx), List.length_eraseIdx_of_lt hx, kM_length], fun k hk => ?_⟩
    rw [eM, List.length_eraseIdx_of_lt (by rw [kM_length]; exact hx), kM_length] at hk
    rw [if_neg (by rintro ⟨h, _⟩; omega)]
    by_cases hl : k < atC l c
    · have hk' : k < l.length := by omega
      have hf : l[k]? = some (l[k]'hk') := List.getElem?_eq_getElem hk'
      rw [okAt_mk (t := tabC l c) (m := ⟨k, Vl.z⟩) (g := l[k]'hk') (by show (newM l c)[k]? = _; rw [eM, List.getElem?_eraseIdx, if_pos hl]; exact kM_get hk') (by show (newF l c)[k]? = _; rw [eF, List.getElem?_eraseIdx, if_pos hl]; exact hf)]
      exact okMv_keep (by omega) (by show l[((k : Nat) : Int).toNat]? = _; rw [Int.toNat_natCast]; exact hf) (rightF_at hr hf)
    · have hk' : k + 1 < l.length := by omega
      have hf : l[k + 1]? = some (l[k + 1]'hk') := List.getElem?_eq_getElem hk'
      rw [okAt_mk (t := tabC l c) (m := ⟨((k + 1 : Nat) : Int), Vl.z⟩) (g := l[k + 1]'hk') (by show (newM l c)[k]? = _; rw [eM, List.getElem?_eraseIdx, if_neg hl]; exact kM_get hk') (by show (newF l c)[k]? = _; rw [eF, List.getElem?_eraseIdx, if_neg hl]; exact hf)]
      exact okMv_keep (by omega) (by show l[((k + 1 : Nat) : Int).toNat]? = _; rw [Int.toNat_natCast]; exact hf) (rightF_at hr hf)
  · have hx := atC_lt (h2 (by omega))
    have eF : newF l c = l.modify (atC l c) fun f => ⟨c.g.s, f.k, f.l⟩ := by simp [newF, e]
    have eM : newM l c = kM l.length := by simp [newM, e]
    refine ⟨by rw [eF, eM, List.length_modify, kM_length], fun k hk => ?_⟩
    rw [eM, kM_length] at hk
    rw [if_neg (by rintro ⟨h, _⟩; omega)]
    have hf : l[k]? = some (l[k]'hk) := List.getElem?_eq_getElem hk
    obtain ⟨g, hg, g1, g2⟩ : ∃ g, (newF l c)[k]? = some g ∧ g.k = (l[k]'hk).k ∧ g.l = (l[k]'hk).l := by
      rw [eF, List.getElem?_modify, hf]
      by_cases hl : atC l c = k
      · exact ⟨⟨c.g.s, (l[k]'hk).k, (l[k]'hk).l⟩, by simp [hl], rfl, rfl⟩
      · exact ⟨l[k]'hk, by simp [hl], rfl, rfl⟩
    rw [okAt_mk (t := tabC l c) (m := ⟨k, Vl.z⟩) (g := g) (by show (newM l c)[k]? = _; rw [eM]; exact kM_get hk) hg]
    exact okMv_keep (by omega) (by show l[((k : Nat) : Int).toNat]? = _; rw [Int.toNat_natCast]; exact hf) (by rw [g1, g2]; exact rightF_at hr hf)
  · have hx := atC_lt (h2 (by omega))
    have eF : newF l c = l.modify (atC l c) fun f => ⟨f.s, c.g.k, c.g.l⟩ := by simp [newF, e]
    have eM : newM l c = kM l.length := by simp [newM, e]
    refine ⟨by rw [eF, eM, List.length_modify, kM_length], fun k hk => ?_⟩
    rw [eM, kM_length] at hk
    rw [if_neg (by rintro ⟨h, _⟩; omega)]
    have hf : l[k]? = some (l[k]'hk) := List.getElem?_eq_getElem hk
    obtain ⟨g, hg, hc⟩ : ∃ g, (newF l c)[k]? = some g ∧ castsB (l[k]'hk).k (l[k]'hk).l g.k g.l = true := by
      rw [eF, List.getElem?_modify, hf]
      by_cases hl : atC l c = k
      · refine ⟨⟨(l[k]'hk).s, c.g.k, c.g.l⟩, by simp [hl], ?_⟩
        have := h4 e
        rw [castsAt, hl, hf] at this
        exact this
      · exact ⟨l[k]'hk, by simp [hl], rightF_at hr hf⟩
    rw [okAt_mk (t := tabC l c) (m := ⟨k, Vl.z⟩) (g := g) (by show (newM l c)[k]? = _; rw [eM]; exact kM_get hk) hg]
    exact okMv_keep (by omega) (by show l[((k : Nat) : Int).toNat]? = _; rw [Int.toNat_natCast]; exact hf) hc
  · have eF : newF l c = c.q.map fun n => (l[n.toNat]?).getD Fd.z := by simp [newF, e]
    have eM : newM l c = c.q.map fun n => ⟨n, Vl.z⟩ := by simp [newM, e]
    refine ⟨by rw [eF, eM, List.length_map, List.length_map], fun k hk => ?_⟩
    rw [eM, List.length_map] at hk
    rw [if_neg (by rintro ⟨h, _⟩; omega)]
    have hq : c.q[k]? = some (c.q[k]'hk) := List.getElem?_eq_getElem hk
    obtain ⟨b0, b1⟩ := perm_mem (h5 e) (List.getElem_mem hk)
    have hk' : (c.q[k]'hk).toNat < l.length := by omega
    have hf : l[(c.q[k]'hk).toNat]? = some (l[(c.q[k]'hk).toNat]'hk') := List.getElem?_eq_getElem hk'
    rw [okAt_mk (t := tabC l c) (m := ⟨c.q[k]'hk, Vl.z⟩) (g := l[(c.q[k]'hk).toNat]'hk') (by show (newM l c)[k]? = _; rw [eM, List.getElem?_map, hq]; rfl) (by show (newF l c)[k]? = _; rw [eF, List.getElem?_map, hq]; simp [hf])]
    exact okMv_keep b0 hf (rightF_at hr hf)
/-- the program's last question -/
theorem tabC_right {l : List Fd} {c : Ch} (hr : rightF l = true) (h1 : 1 ≤ c.op ∧ c.op ≤ 5) (h2 : 2 ≤ c.op ∧ c.op ≤ 4 → ¬ findZ l c.s < 0) (h4 : c.op = 4 → castsAt l c = true) (h5 : c.op = 5 → permB c.q l.length = true) :
    rightT (tabC l c) = (rightF (newF l c) && (decide (c.op ≠ 1) || okVal c)) := by
  obtain ⟨hlen, hok⟩ := tabC_ok hr h1 h2 h4 h5
  rw [Bool.eq_iff_iff, rightT_iff, Bool.and_eq_true, Bool.or_eq_true, decide_eq_true_eq]
  constructor
  · rintro ⟨_, h, _, ha⟩
    refine ⟨h, ?_⟩
    by_cases e : c.op = 1
    · have hl : (newM l c).length = l.length + 1 := by simp [newM, e, kM_length]
      have h := ha l.length (by show _ < (newM l c).length; omega)
      rw [hok _ (by omega), if_pos ⟨e, rfl⟩] at h
      exact .inr h
    · exact .inl e
  · rintro ⟨h, ha⟩
    refine ⟨hr, h, hlen, fun k hk => ?_⟩
    rw [hok k hk]
    split
    · rename_i e
      rcases ha with ha | ha
      · exact absurd e.1 ha
      · exact ha
    · rfl
theorem makeE_right {l : List Fd} {c : Ch} (h : makeE l c = 0) : rightT (makeT l c) = true ∧ rightF l = true ∧ rightF (newF l c) = true ∧ makeT l c = tabC l c := by
  have e : makeT l c = tabC l c := by rw [makeT, if_pos h]
  unfold makeE at h
  split at h
  · rename_i hs
    split at h
    · rename_i hf
      unfold stepE at hs
      split at hs; · omega
      rename_i h0
      split at hs; · omega
      rename_i h1
      split at hs; · omega
      rename_i h2
      split at hs; · omega
      rename_i h3
      split at hs; · omega
      rename_i h4
      split at hs; · omega
      rename_i h5
      have hr : rightF l = true := by simpa using h0
      refine ⟨?_, hr, hf, e⟩
      rw [e, tabC_right hr (by omega) (fun h => fun h' => h2 ⟨h.1, h.2, h'⟩) (fun h => Bool.of_not_eq_false fun hc => h4 ⟨h, hc⟩) (fun h => Bool.of_not_eq_false fun hc => h5 ⟨h, hc⟩), hf]
      by_cases e1 : c.op = 1
      · cases hc : okVal c
        · exact absurd ⟨e1, hc⟩ h3
        · simp
      · simp [e1]
    · omega
  · rename_i hs; exact absurd h hs
end Go.Proofs.YtehcpjodkadfnaaGreat
/- Layer 7 of the heap, tables, in plain words: two tables, one behind the other; many changes. -/
set_option linter.unusedSimpArgs false
set_option linter.unusedVariables false
set_option maxRecDepth 100000
namespace Go.Proofs.YtehcpjodkadfnaaGreat
open Go.RowKit

/-- a value, turned into another field's -/
def castL (v : Vl) (f g : Fd) : Vl := if rightB v.k v.b v.t f.k f.l = true ∧ castsB f.k f.l g.k g.l = true then ⟨g.k, castZ v.b f.k g.k, castT v.t g.k g.l⟩ else Vl.z
theorem castL_v (v : Vl) (f g : Fd) : castV v.k v.b v.t f.k f.l g.k g.l = (castL v f g).v := by
  unfold castV castL
  split <;> rfl
theorem castL_bd {v : Vl} {f g : Fd} (h0 : 0 ≤ v.b) (h1 : v.b < 18446744073709551616) : 0 ≤ (castL v f g).b ∧ (castL v f g).b < 18446744073709551616 := by
  unfold castL
  split
  · exact castZ_bd _ _ _ h0 h1
  · exact ⟨by decide, by decide⟩
/-- a move behind a table -/
def compMv (a b : Tb) (k : Nat) : Mv :=
  match b.m[k]? with
  | none => ⟨0, Vl.z⟩
  | some m =>
    if 0 ≤ m.f then
      match a.m[m.f.toNat]? with
      | none => ⟨0, Vl.z⟩
      | some n => if n.f < 0 then ⟨n.f, castL n.d ((b.o[m.f.toNat]?).getD Fd.z) ((b.n[k]?).getD Fd.z)⟩ else n
    else m
def compM (a b : Tb) (k : Nat) : List Mv := (List.range k).map (compMv a b)
theorem compM_succ (a b : Tb) (k : Nat) : compM a b (k + 1) = compM a b k ++ [compMv a b k] := by simp [compM, List.range_succ]
theorem compM_length (a b : Tb) (k : Nat) : (compM a b k).length = k := by simp [compM]
def compT (a b : Tb) : Tb := ⟨a.o, b.n, compM a b b.m.length⟩
def meetB (a b : Tb) : Bool := rightT a && rightT b && sameFB a.n b.o
def composeE (a b : Tb) : Int := if meetB a b = true ∧ rightT (compT a b) = true then 0 else 70
def composeT (a b : Tb) : Tb := if composeE a b = 0 then compT a b else Tb.z

theorem casts_11 {k l l2 : Int} (h : castsB k l 11 l2 = true) : k = 11 := by
  unfold castsB at h
  split at h
  · cases h
  · split at h
    · assumption
    · split at h
      · simp [btw] at h
      · split at h
        · simp [btw] at h
        · split at h
          · simp [btw] at h
          · simp at h
theorem okMv_neg {o : List Fd} {g : Fd} {d : Vl} : okMv o g ⟨-1, d⟩ = (rightB d.k d.b d.t g.k g.l && (decide (g.k ≠ 11) || decide (d.b = 0))) := by rw [okMv, if_pos rfl]
theorem okMv_pos {o : List Fd} {g : Fd} {m : Mv} (h : ¬ m.f = -1) (hok : okMv o g m = true) : 0 ≤ m.f ∧ m.d = Vl.z ∧ ∃ f, o[m.f.toNat]? = some f ∧ castsB f.k f.l g.k g.l = true := by
  rw [okMv, if_neg h, Bool.and_eq_true, decide_eq_true_eq] at hok
  obtain ⟨h0, h1⟩ := hok
  cases hf : o[m.f.toNat]? with
  | none => rw [hf] at h1; cases h1
  | some f =>
    rw [hf] at h1
    simp only [Bool.and_eq_true, decide_eq_true_eq] at h1
    exact ⟨h0, h1.1, f, rfl, h1.2⟩
/-- what a composed move is, and whether it may be -/
theorem comp_at {a b : Tb} (hw : MvW a.m) (ha : rightT a = true) (hb : rightT b = true) (hs : a.n = b.o) {k : Nat} {m : Mv} {g : Fd} (hm : b.m[k]? = some m) (hg : b.n[k]? = some g) :
    (m.f < 0 ∧ compMv a b k = m ∧ okAt (compT a b) k = true) ∨
    (0 ≤ m.f ∧ ∃ n f, a.m[m.f.toNat]? = some n ∧ a.n[m.f.toNat]? = some f ∧ b.o[m.f.toNat]? = some f ∧
      ((n.f < 0 ∧ compMv a b k = ⟨n.f, castL n.d f g⟩ ∧ okAt (compT a b) k = true) ∨
       (0 ≤ n.f ∧ compMv a b k = n ∧ ∃ h, a.o[n.f.toNat]? = some h ∧ okAt (compT a b) k = castsB h.k h.l g.k g.l))) := by
  obtain ⟨_, _, ala, aok⟩ := rightT_iff.1 ha
  obtain ⟨_, _, blb, bok⟩ := rightT_iff.1 hb
  have hk : k < b.m.length := (List.getElem?_eq_some_iff.1 hm).1
  have hok := bok k hk
  rw [okAt_mk hm hg] at hok
  have hat : okAt (compT a b) k = okMv a.o g (compMv a b k) := okAt_mk (t := compT a b) (by show (compM a b b.m.length)[k]? = _; simp [compM, hk]) hg
  by_cases hf : m.f = -1
  · have e : compMv a b k = m := by unfold compMv; rw [hm]; simp only; rw [if_neg (by omega)]
    refine .inl ⟨by omega, e, ?_⟩
    rw [hat, e]
    obtain ⟨mf, md⟩ := m
    obtain rfl : mf = -1 := hf
    rw [okMv_neg] at hok ⊢
    exact hok
  · obtain ⟨h0, hz, f, hbo, hcast⟩ := okMv_pos hf hok
    have hlt : m.f.toNat < b.o.length := (List.getElem?_eq_some_iff.1 hbo).1
    have hlm : m.f.toNat < a.m.length := by rw [ala, hs]; exact hlt
    have hn : a.m[m.f.toNat]? = some (a.m[m.f.toNat]'hlm) := List.getElem?_eq_getElem hlm
    have haok := aok _ hlm
    have han : a.n[m.f.toNat]? = some f := by rw [hs]; exact hbo
    rw [okAt_mk hn han] at haok
    obtain ⟨w0, w1⟩ := hw _ (List.getElem_mem hlm)
    generalize a.m[m.f.toNat]'hlm = n at *
    refine .inr ⟨h0, n, f, hn, han, hbo, ?_⟩
    by_cases hnf : n.f = -1
    · have e : compMv a b k = ⟨n.f, castL n.d f g⟩ := by unfold compMv; rw [hm]; simp only; rw [if_pos h0, hn]; simp only; rw [if_pos (by omega), hbo, hg]; rfl
      refine .inl ⟨by omega, e, ?_⟩
      rw [hat, e, hnf, okMv_neg]
      obtain ⟨nf, nd⟩ := n
      obtain rfl : nf = -1 := hnf
      rw [okMv_neg, Bool.and_eq_true] at haok
      obtain ⟨hr, h11⟩ := haok
      have hcl : castL nd f g = ⟨g.k, castZ nd.b f.k g.k, castT nd.t g.k g.l⟩ := by rw [castL, if_pos ⟨hr, hcast⟩]
      show (rightB (castL nd f g).k (castL nd f g).b (castL nd f g).t g.k g.l && (decide (g.k ≠ 11) || decide ((castL nd f g).b = 0))) = true
      rw [hcl]
      have hcr := (cast_right (tx := nd.t) w0 w1 hr hcast).1
      show (rightB g.k (castZ nd.b f.k g.k) (castT nd.t g.k g.l) g.k g.l && (decide (g.k ≠ 11) || decide (castZ nd.b f.k g.k = 0))) = true
      rw [hcr, Bool.true_and]
      by_cases hg11 : g.k = 11
      · have hf11 : f.k = 11 := casts_11 (k := f.k) (l := f.l) (l2 := g.l) (by rw [hg11] at hcast; exact hcast)
        rw [hg11, hf11]
        simp [hf11] at h11
        simp [castZ, h11]
      · simp [hg11]
    · obtain ⟨n0, nz, h, hao, _⟩ := okMv_pos hnf haok
      have e : compMv a b k = n := by unfold compMv; rw [hm]; simp only; rw [if_pos h0, hn]; simp only; rw [if_neg (by omega)]
      refine .inr ⟨n0, e, h, hao, ?_⟩
      rw [hat, e, okMv, if_neg hnf, hao]
      simp [n0, nz]
theorem meetB_iff {a b : Tb} : meetB a b = true ↔ rightT a = true ∧ rightT b = true ∧ a.n = b.o := by
  simp [meetB, sameFB, and_assoc]
theorem compT_right {a b : Tb} (h : meetB a b = true) : rightT (compT a b) = decide (∀ k, k < b.m.length → okAt (compT a b) k = true) := by
  obtain ⟨ha, hb, _⟩ := meetB_iff.1 h
  obtain ⟨a1, _, _, _⟩ := rightT_iff.1 ha
  obtain ⟨_, b2, b3, _⟩ := rightT_iff.1 hb
  have e1 : (compT a b).m.length = b.m.length := compM_length _ _ _
  rw [Bool.eq_iff_iff, rightT_iff, decide_eq_true_eq, e1]
  exact ⟨fun h => h.2.2.2, fun h => ⟨a1, b2, b3, h⟩⟩
theorem composeE_right {a b : Tb} (h : composeE a b = 0) : meetB a b = true ∧ rightT (compT a b) = true ∧ composeT a b = compT a b := by
  have e : composeT a b = compT a b := by rw [composeT, if_pos h]
  unfold composeE at h
  split at h
  · rename_i hh; exact ⟨hh.1, hh.2, e⟩
  · omega
theorem compM_w {a b : Tb} (ha : MvW a.m) (hb : MvW b.m) (k : Nat) : MvW (compM a b k) := by
  intro m hm
  simp only [compM, List.mem_map] at hm
  obtain ⟨j, _, rfl⟩ := hm
  unfold compMv
  split
  · exact ⟨by decide, by decide⟩
  · rename_i m hm
    split
    · split
      · exact ⟨by decide, by decide⟩
      · rename_i n hn
        obtain ⟨w0, w1⟩ := ha n (List.mem_of_getElem? hn)
        split
        · exact castL_bd w0 w1
        · exact ⟨w0, w1⟩
    · exact hb m (List.mem_of_getElem? hm)
/-- many changes, one behind the other -/
def goT (t : Tb) : List Ch → Tb × Int
  | [] => (t, 0)
  | c :: r => if makeE t.n c = 0 then (if composeE t (makeT t.n c) = 0 then goT (composeT t (makeT t.n c)) r else (Tb.z, 70)) else (Tb.z, makeE t.n c)
def allT (l : List Fd) (cs : List Ch) : Tb × Int := if rightF l = true then goT (keepT l) cs else (Tb.z, 60)
theorem goT_right {t : Tb} (ht : rightT t = true) : ∀ cs, (goT t cs).2 = 0 → rightT (goT t cs).1 = true := by
  intro cs
  induction cs generalizing t with
  | nil => intro _; exact ht
  | cons c r ih =>
    intro h
    unfold goT at h ⊢
    split at h
    · rename_i h1
      rw [if_pos h1]
      split at h
      · rename_i h2
        rw [if_pos h2]
        obtain ⟨_, h3, h4⟩ := composeE_right h2
        exact ih (by rw [h4]; exact h3) h
      · exact absurd h (by decide)
    · rename_i h1; exact absurd h h1
theorem allT_right {l : List Fd} {cs : List Ch} (h : (allT l cs).2 = 0) : rightT (allT l cs).1 = true := by
  unfold allT at h ⊢
  split at h
  · rename_i h1
    rw [if_pos h1]
    exact goT_right (by rw [keepT_right h1]; exact keep_right h1) cs h
  · exact absurd h (by decide)
end Go.Proofs.YtehcpjodkadfnaaGreat
