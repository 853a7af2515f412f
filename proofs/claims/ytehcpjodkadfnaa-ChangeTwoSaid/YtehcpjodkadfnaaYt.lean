/- The law ChangeTwo: WHATEVER THE INPUT it tells true, it never panics, and the input reads as it did. Merged out of: Qt Zt. -/
import Derived.Test.YtehcpjodkadfnaaVu
import Derived.Test.YtehcpjodkadfnaaVn
import Derived.Test.YtehcpjodkadfnaaRows
import Derived.Test.YtehcpjodkadfnaaVm
/- ChangeTwo, walked: it tells true. -/
set_option linter.unusedSimpArgs false
set_option linter.unusedVariables false
set_option maxRecDepth 100000
namespace Go.Proofs.Ytehcpjodkadfnaa
open Go.RowKit Go.Lib

/-- the table that changes nothing, ahead of another -/
theorem keep_comp {l : List Fd} {M : Tb} (hl : rightF l = true) (hM : rightT M = true) (ho : M.o = l) : composeE (keepT l) M = 0 ∧ (composeT (keepT l) M).n = M.n := by
  have hk := keepT_right hl
  have hkr := keep_right hl
  have hmeet : meetB (keepT l) M = true := meetB_iff.2 ⟨by rw [hk]; exact hkr, hM, by rw [hk, ho]⟩
  have hr : rightT (compT (keepT l) M) = true := by
    rw [compT_right hmeet]
    refine decide_eq_true (fun j hj => ?_)
    obtain ⟨_, _, hlen, hok⟩ := rightT_iff.1 hM
    have hm : M.m[j]? = some (M.m[j]'hj) := List.getElem?_eq_getElem hj
    have hg : M.n[j]? = some (M.n[j]'(by omega)) := List.getElem?_eq_getElem (by omega)
    generalize M.m[j]'hj = m at hm
    generalize M.n[j]'(by omega) = g at hg
    have hokj := hok j hj
    rw [okAt_mk hm hg] at hokj
    rcases comp_at (a := keepT l) (b := M) (by rw [hk]; exact kM_w _) (by rw [hk]; exact hkr) hM (by rw [hk, ho]) hm hg with ⟨_, _, h⟩ | ⟨hf, n, f, hn, hf1, hf2, ⟨_, _, h⟩ | ⟨hn0, _, x, hx, h⟩⟩
    · exact h
    · exact h
    · rw [h]
      obtain ⟨_, _, f', hf', hc⟩ := okMv_pos (by omega) hokj
      rw [hk] at hn hx
      have hlt : m.f.toNat < l.length := by rw [ho] at hf'; exact (List.getElem?_eq_some_iff.1 hf').1
      have hn' : (kM l.length)[m.f.toNat]? = some n := hn
      rw [kM_get hlt] at hn'
      obtain rfl := Option.some.inj hn'
      have hx' : l[(((m.f.toNat : Nat) : Int)).toNat]? = some x := hx
      rw [Int.toNat_natCast] at hx'
      rw [ho] at hf'
      rw [hx'] at hf'
      obtain rfl := Option.some.inj hf'
      exact hc
  have e : composeE (keepT l) M = 0 := by rw [composeE, if_pos ⟨hmeet, hr⟩]
  exact ⟨e, by rw [composeT, if_pos e]; rfl⟩
/-- what the law says, in plain words -/
theorem two_law {l : List Fd} {a b : Ch} (h : makeE l a = 0) : (makeE (makeT l a).n b ≠ 0 → (allT l [a, b]).2 = makeE (makeT l a).n b) ∧ (makeE (makeT l a).n b = 0 → ((allT l [a, b]).2 = 0 ∧ (allT l [a, b]).1.n = (makeT (makeT l a).n b).n) ∨ (allT l [a, b]).2 = 70) := by
  obtain ⟨h1, h2, h3, h4⟩ := makeE_right h
  obtain ⟨e1, e2⟩ := keep_comp h2 h1 (by rw [h4]; rfl)
  have hkn : (keepT l).n = l := by rw [keepT_right h2]
  have hall : allT l [a, b] = goT (composeT (keepT l) (makeT l a)) [b] := by
    rw [allT, if_pos h2, goT_next (by rw [hkn]; exact h) (by rw [hkn]; exact e1), hkn]
  rw [hall]
  refine ⟨fun hf => ?_, fun hf => ?_⟩
  · rw [goT_make (by rw [e2]; exact hf), e2]
  · by_cases e3 : composeE (composeT (keepT l) (makeT l a)) (makeT (composeT (keepT l) (makeT l a)).n b) = 0
    · rw [goT_next (by rw [e2]; exact hf) e3]
      refine .inl ⟨rfl, ?_⟩
      show (composeT _ _).n = _
      rw [composeT, if_pos e3, e2]
      rfl
    · rw [goT_comp (by rw [e2]; exact hf) e3]
      exact .inr rfl
theorem makeT_len16 (l : List Fd) (c : Ch) : (makeT l c).n.length ≤ 16 := by
  by_cases h : makeE l c = 0
  · exact (rightT_16 (makeE_right h).1).2.1
  · rw [makeT, if_neg h]; simp [Tb.z]
/-- what the rows of the arguments hold -/
def ChIn2 (w : World) (c : Ch) (Q : Option Addr) (n qc : Nat) : Prop := (-9223372036854775808 ≤ c.op ∧ c.op ≤ 9223372036854775807) ∧ (0 ≤ c.d.b ∧ c.d.b < 18446744073709551616) ∧ (c.s.size ≤ 281474976710656 ∧ c.g.s.size ≤ 281474976710656 ∧ c.d.t.size ≤ 281474976710656 ∧ c.q.length ≤ 281474976710656) ∧ c.q.length = n ∧ n ≤ qc ∧ qc ≤ maxLen ∧ Rd w Q (cellsI c.q)
theorem ab_rows {a b : Ch} {P Q : Option Addr} {j pc n qc : Nat} {w W : World} (ha : ChIn2 w a P j pc) (hb : ChIn2 w b Q n qc) (h : Below w.heap.size w W) : ∀ p ∈ [(a, Value.slice P j pc), (b, Value.slice Q n qc)], ChO W p := by
  obtain ⟨_, _, _, h1, h2, h3, h4⟩ := ha
  obtain ⟨_, _, _, k1, k2, k3, k4⟩ := hb
  intro p hp
  simp at hp
  rcases hp with rfl | rfl
  · exact ⟨P, pc, by rw [← h1], by rw [h1]; exact h2, h3, h4.below h⟩
  · exact ⟨Q, qc, by rw [← k1], by rw [k1]; exact k2, k3, k4.below h⟩
theorem ab_sizes {a b : Ch} {P Q : Option Addr} {j pc n qc : Nat} {w : World} (ha : ChIn2 w a P j pc) (hb : ChIn2 w b Q n qc) : ∀ p ∈ [(a, Value.slice P j pc), (b, Value.slice Q n qc)], ChS p := by
  intro p hp
  simp at hp
  rcases hp with rfl | rfl
  · exact ha.2.2.1
  · exact hb.2.2.1
theorem ab_w {a b : Ch} {P Q : Option Addr} {j pc n qc : Nat} {w : World} (ha : ChIn2 w a P j pc) (hb : ChIn2 w b Q n qc) (hj : j ≤ 4398046511104) (hn : n ≤ 4398046511104) : ∀ p ∈ [(a, Value.slice P j pc), (b, Value.slice Q n qc)], ChW p := by
  intro p hp
  simp at hp
  rcases hp with rfl | rfl
  · exact ⟨ha.1, ha.2.1, by show a.q.length ≤ _; rw [ha.2.2.2.1]; exact hj, ha.2.2.1.2.1⟩
  · exact ⟨hb.1, hb.2.1, by show b.q.length ≤ _; rw [hb.2.2.2.1]; exact hn, hb.2.2.1.2.1⟩
theorem ab_new {a b : Ch} {P Q : Option Addr} {j pc n qc : Nat} (W : World) : Rd (W.alloc (.cells #[.int .i64 a.op, .string a.s, .string a.g.s, .int .i64 a.g.k, .int .i64 a.g.l, .int .i64 a.d.k, .int .u64 a.d.b, .string a.d.t, .slice P j pc, .int .i64 b.op, .string b.s, .string b.g.s, .int .i64 b.g.k, .int .i64 b.g.l, .int .i64 b.d.k, .int .u64 b.d.b, .string b.d.t, .slice Q n qc] 30)) (some ⟨W.heap.size, 0, none⟩) (cellsC [(a, Value.slice P j pc), (b, Value.slice Q n qc)]) := rd_new W (cellsC [(a, Value.slice P j pc), (b, Value.slice Q n qc)]) 30
set_option maxHeartbeats 4000000 in
theorem ChangeTwo_m (A : Option Addr) (cA : Nat) (l : List Fd) (m : Nat) (hm : l.length = m) (hmc : m ≤ cA) (hl : m ≤ 9223372036854775807) (hs : NmS l) (a : Ch) (P : Option Addr) (j pc : Nat) (b : Ch) (Q : Option Addr) (n qc : Nat) (w : World) (hA : Rd w A (cellsF l)) (ha : ChIn2 w a P j pc) (hb : ChIn2 w b Q n qc) :
    Calls Try.prog 7 #[.slice A m cA, .agg #[.int .i64 a.op, .string a.s, .string a.g.s, .int .i64 a.g.k, .int .i64 a.g.l, .int .i64 a.d.k, .int .u64 a.d.b, .string a.d.t, .slice P j pc], .agg #[.int .i64 b.op, .string b.s, .string b.g.s, .int .i64 b.g.k, .int .i64 b.g.l, .int .i64 b.d.k, .int .u64 b.d.b, .string b.d.t, .slice Q n qc]] w fun e w' => e = .returned (.bool true) ∧ Below w.heap.size w w' := by
  obtain ⟨⟨p0, p1⟩, ⟨x0, x1⟩, _, hj, hjc, _, RP⟩ := id ha
  obtain ⟨⟨p2, p3⟩, ⟨x2, x3⟩, _, hn, hnc, _, RQ⟩ := id hb
  have bb1 := below_new (w := w) (.cells #[.int .i64 a.op, .string a.s, .string a.g.s, .int .i64 a.g.k, .int .i64 a.g.l, .int .i64 a.d.k, .int .u64 a.d.b, .string a.d.t, .slice P j pc] 30)
  have bb2 := below_new (w := w.alloc (.cells #[.int .i64 a.op, .string a.s, .string a.g.s, .int .i64 a.g.k, .int .i64 a.g.l, .int .i64 a.d.k, .int .u64 a.d.b, .string a.d.t, .slice P j pc] 30)) (.cells #[.int .i64 b.op, .string b.s, .string b.g.s, .int .i64 b.g.k, .int .i64 b.g.l, .int .i64 b.d.k, .int .u64 b.d.b, .string b.d.t, .slice Q n qc] 30)
  have bb3 := below_new (w := (w.alloc (.cells #[.int .i64 a.op, .string a.s, .string a.g.s, .int .i64 a.g.k, .int .i64 a.g.l, .int .i64 a.d.k, .int .u64 a.d.b, .string a.d.t, .slice P j pc] 30)).alloc (.cells #[.int .i64 b.op, .string b.s, .string b.g.s, .int .i64 b.g.k, .int .i64 b.g.l, .int .i64 b.d.k, .int .u64 b.d.b, .string b.d.t, .slice Q n qc] 30)) (.cells #[.int .i64 a.op, .string a.s, .string a.g.s, .int .i64 a.g.k, .int .i64 a.g.l, .int .i64 a.d.k, .int .u64 a.d.b, .string a.d.t, .slice P j pc, .int .i64 b.op, .string b.s, .string b.g.s, .int .i64 b.g.k, .int .i64 b.g.l, .int .i64 b.d.k, .int .u64 b.d.b, .string b.d.t, .slice Q n qc] 30)
  have A0 : CBox ((w.alloc (.cells #[.int .i64 a.op, .string a.s, .string a.g.s, .int .i64 a.g.k, .int .i64 a.g.l, .int .i64 a.d.k, .int .u64 a.d.b, .string a.d.t, .slice P j pc] 30)).alloc (.cells #[.int .i64 b.op, .string b.s, .string b.g.s, .int .i64 b.g.k, .int .i64 b.g.l, .int .i64 b.d.k, .int .u64 b.d.b, .string b.d.t, .slice Q n qc] 30)) w.heap.size a (.slice P j pc) 30 := OBox.below (OBox.new w (chL a (.slice P j pc)) 30) bb2
  have B0 : CBox ((w.alloc (.cells #[.int .i64 a.op, .string a.s, .string a.g.s, .int .i64 a.g.k, .int .i64 a.g.l, .int .i64 a.d.k, .int .u64 a.d.b, .string a.d.t, .slice P j pc] 30)).alloc (.cells #[.int .i64 b.op, .string b.s, .string b.g.s, .int .i64 b.g.k, .int .i64 b.g.l, .int .i64 b.d.k, .int .u64 b.d.b, .string b.d.t, .slice Q n qc] 30)) (w.heap.size + 1) b (.slice Q n qc) 30 := by have := OBox.new (w.alloc (.cells #[.int .i64 a.op, .string a.s, .string a.g.s, .int .i64 a.g.k, .int .i64 a.g.l, .int .i64 a.d.k, .int .u64 a.d.b, .string a.d.t, .slice P j pc] 30)) (chL b (.slice Q n qc)) 30; rw [World.size_alloc] at this; exact this
  have KR := ab_new (a := a) (b := b) (P := P) (Q := Q) (j := j) (pc := pc) (n := n) (qc := qc) ((w.alloc (.cells #[.int .i64 a.op, .string a.s, .string a.g.s, .int .i64 a.g.k, .int .i64 a.g.l, .int .i64 a.d.k, .int .u64 a.d.b, .string a.d.t, .slice P j pc] 30)).alloc (.cells #[.int .i64 b.op, .string b.s, .string b.g.s, .int .i64 b.g.k, .int .i64 b.g.l, .int .i64 b.d.k, .int .u64 b.d.b, .string b.d.t, .slice Q n qc] 30))
  rw [World.size_alloc, World.size_alloc] at KR
  have HB := below_seq bb1 (below_seq bb2 bb3)
  have A1 := A0.below bb3
  have B1 := B0.below bb3
  obtain ⟨a0, a1, a2, a3, a4, a5, a6, a7, a8⟩ := A0.c9
  obtain ⟨b0, b1, b2, b3, b4, b5, b6, b7, b8⟩ := B0.c9
  have HHA := Lib.hid ha; have HHB := Lib.hid hb
  have HM := Lib.hid hm; have HJ := Lib.hid hj; have HN := Lib.hid hn; have HS := Lib.hid hs
  clear ha hb hm hj hn hs bb1 bb2 bb3 A0 B0
  go_enter Try.func7, Try.ntmps7
  go_wp2_with (first
    | (go_at_call 8; refine (few_m A cA l m HM.out _ _ [(a, Value.slice P j pc), (b, Value.slice Q n qc)] 2 rfl _ (hA.below HB) KR (ab_rows HHA.out HHB.out HB) HS.out (ab_sizes HHA.out HHB.out) hl (by omega)).mono ?_; rintro e W1 ⟨rf, rfl, hrf, hb⟩; have HRF := Lib.hid hrf; replace HB := HB.trans (hb.mono HB.size); replace A1 := A1.below hb; replace B1 := B1.below hb; clear a0 a1 a2 a3 a4 a5 a6 a7 a8 b0 b1 b2 b3 b4 b5 b6 b7 b8; obtain ⟨a0, a1, a2, a3, a4, a5, a6, a7, a8⟩ := A1.c9; clear hrf hb KR)
    | (go_at_call 9; refine (alive_calls8 _).mono ?_; rintro e wM ⟨rfl, hb⟩; replace HB := HB.trans (hb.mono HB.size); clear hb)
    | (go_at_call 12; refine (Apply_m l a m HM.out hl A cA hmc P j pc HJ.out (by have h3 := HRF.out (by simpa using ‹(!rf) = false›); have h4 := h3.2.2 _ (List.mem_cons_self); have h5 := HJ.out; simp at h4; omega) hjc p0 p1 x0 x1 _ (hA.below HB) (RP.below HB)).mono ?_))
  all_goals first
    | (go_ret; exact ⟨rfl, HB⟩)
    | skip
  have hj1 : j ≤ 4398046511104 := (by have h3 := HRF.out (by simpa using ‹(!rf) = false›); have h4 := h3.2.2 _ (List.mem_cons_self); have h5 := HJ.out; simp at h4; omega)
  have hn1 : n ≤ 4398046511104 := (by have h3 := HRF.out (by simpa using ‹(!rf) = false›); have h4 := h3.2.2 _ (List.mem_cons_of_mem _ (List.mem_singleton_self _)); have h5 := HN.out; simp at h4; omega)
  clear HRF
  obtain ⟨L2, hL2⟩ : ∃ x, (makeT l a).n = x := ⟨_, rfl⟩
  obtain ⟨e1, he1⟩ : ∃ x, makeE l a = x := ⟨_, rfl⟩
  obtain ⟨mn, hmn⟩ : ∃ x, L2.length = x := ⟨_, rfl⟩
  have hmn16 : mn ≤ 16 := by rw [← hmn, ← hL2]; exact makeT_len16 l a
  rw [hL2, he1]
  rintro e W2 ⟨Y, d, rfl, hd, RM, hb⟩
  rw [hmn] at hd ⊢
  replace HB := HB.trans (hb.mono HB.size)
  replace A1 := A1.below hb
  replace B1 := B1.below hb
  have RY := RM.rd
  have HL2 := Lib.hid hL2; have HE1 := Lib.hid he1; have HMN := Lib.hid hmn
  clear hb RM a0 a1 a2 a3 a4 a5 a6 a7 a8 hL2 he1 hmn
  by_cases h0 : e1 = 0
  · subst h0
    obtain ⟨b0, b1, b2, b3, b4, b5, b6, b7, b8⟩ := B1.c9
    go_wp2_with (go_at_call 12; refine (Apply_m L2 b mn HMN.out (by omega) Y d hd Q n qc HN.out hn1 hnc p2 p3 x2 x3 _ RY (RQ.below HB)).mono ?_)
    obtain ⟨L3, hL3⟩ : ∃ x, (makeT L2 b).n = x := ⟨_, rfl⟩
    obtain ⟨e2, he2⟩ : ∃ x, makeE L2 b = x := ⟨_, rfl⟩
    obtain ⟨m3, hm3⟩ : ∃ x, L3.length = x := ⟨_, rfl⟩
    have hm316 : m3 ≤ 16 := by rw [← hm3, ← hL3]; exact makeT_len16 L2 b
    rw [hL3, he2]
    rintro e W3 ⟨Z, d3, rfl, hd3, RZ0, hb⟩
    rw [hm3]
    replace HB := HB.trans (hb.mono HB.size)
    replace A1 := A1.below hb
    replace B1 := B1.below hb
    have RZ := RZ0.rd
    have HL3 := Lib.hid hL3; have HE2 := Lib.hid he2; have HM3 := Lib.hid hm3
    clear hb RZ0 b0 b1 b2 b3 b4 b5 b6 b7 b8 hL3 he2 hm3 RY hd hd3
    obtain ⟨a0, a1, a2, a3, a4, a5, a6, a7, a8⟩ := A1.c9
    obtain ⟨b0, b1, b2, b3, b4, b5, b6, b7, b8⟩ := B1.c9
    have nb := below_new (w := W3) (.cells #[.int .i64 a.op, .string a.s, .string a.g.s, .int .i64 a.g.k, .int .i64 a.g.l, .int .i64 a.d.k, .int .u64 a.d.b, .string a.d.t, .slice P j pc, .int .i64 b.op, .string b.s, .string b.g.s, .int .i64 b.g.k, .int .i64 b.g.l, .int .i64 b.d.k, .int .u64 b.d.b, .string b.d.t, .slice Q n qc] 30)
    have KR := ab_new (a := a) (b := b) (P := P) (Q := Q) (j := j) (pc := pc) (n := n) (qc := qc) W3
    replace HB := HB.trans (nb.mono HB.size)
    replace RZ := RZ.below nb
    go_wp2_with (go_at_call 22; refine (own_m _ 2 2 [(a, Value.slice P j pc), (b, Value.slice Q n qc)] rfl (by omega) _ KR (ab_rows HHA.out HHB.out HB)).mono ?_)
    rintro e W4 ⟨B, dB, rfl, rK, hb⟩
    replace HB := HB.trans (hb.mono HB.size)
    replace RZ := RZ.below hb
    clear hb nb KR A1 B1 a0 a1 a2 a3 a4 a5 a6 a7 a8 b0 b1 b2 b3 b4 b5 b6 b7 b8
    go_wp2_with (go_at_call 21; refine (All_m l m HM.out hl A cA hmc B dB 2 [(a, Value.slice P j pc), (b, Value.slice Q n qc)] rfl (by omega) HS.out (ab_w HHA.out HHB.out hj1 hn1) _ (hA.below HB) rK (ab_rows HHA.out HHB.out HB)).mono ?_)
    have hlaw := two_law (l := l) (a := a) (b := b) HE1.out
    rw [HL2.out, HE2.out, HL3.out] at hlaw
    show ∀ e w', CoP (allT l [a, b]).1 (allT l [a, b]).2 W4 e w' → _
    obtain ⟨T, hT⟩ : ∃ x, (allT l [a, b]).1 = x := ⟨_, rfl⟩
    obtain ⟨g, hg⟩ : ∃ x, (allT l [a, b]).2 = x := ⟨_, rfl⟩
    obtain ⟨ko, hko⟩ : ∃ x, T.o.length = x := ⟨_, rfl⟩
    obtain ⟨tn, htn⟩ : ∃ x, T.n.length = x := ⟨_, rfl⟩
    obtain ⟨tm, htm⟩ : ∃ x, T.m.length = x := ⟨_, rfl⟩
    rw [hT, hg] at hlaw ⊢
    rintro e W5 ⟨X0, y0, X1, y1, X2, y2, rfl, _, _, r0, r1, r2, hb⟩
    rw [hko, htn, htm]
    have nb := below_new (w := W5) (.cells #[.slice X0 ko y0, .slice X1 tn y1, .slice X2 tm y2] 36)
    have TB := TBox.new W5 (.slice X0 ko y0) (.slice X1 tn y1) (.slice X2 tm y2) 36
    have hb2 := below_seq hb nb
    replace HB := HB.trans (hb2.mono HB.size)
    replace RZ := RZ.below hb2
    replace r1 := r1.below nb
    have HLAW := Lib.hid hlaw; have HTN := Lib.hid htn
    clear hb hb2 nb rK hT hg hko htn htm hlaw r0 r2
    obtain ⟨t0, t1, t2⟩ := TB
    by_cases h2 : e2 = 0
    · subst h2
      rcases HLAW.out.2 rfl with ⟨rfl, hTn⟩ | rfl
      · have hlen : tn = m3 := by rw [← HTN.out, ← HM3.out, hTn]
        subst hlen
        have HTN2 := Lib.hid hTn
        clear hTn
        go_wp2_with (first
          | (go_at_call 9; refine (alive_calls8 _).mono ?_; rintro e wM ⟨rfl, hb⟩; replace HB := HB.trans (hb.mono HB.size); replace RZ := RZ.below hb; replace r1 := r1.below hb; have t1' := cell_below (B := 0) hb t1; clear hb t0 t1 t2)
          | (go_at_call 15; refine (Same6_m X1 Z y1 d3 tn tn T.n L3 HTN.out HM3.out true (by rw [HTN2.out]; simp [sameFB]) _ r1 RZ (by omega) (by omega)).mono ?_; rintro e wE ⟨rfl, hb⟩; replace HB := HB.trans (hb.mono HB.size); clear hb))
        go_ret
        exact ⟨rfl, HB⟩
      · go_wp2_with (first
          | (go_at_call 9; refine (alive_calls8 _).mono ?_; rintro e wM ⟨rfl, hb⟩; replace HB := HB.trans (hb.mono HB.size); replace RZ := RZ.below hb; replace r1 := r1.below hb; have t1' := cell_below (B := 0) hb t1; clear hb t0 t1 t2))
        go_ret
        exact ⟨rfl, HB⟩
    · have h3 : (e2 != 0) = true := by simpa using h2
      obtain rfl : g = e2 := HLAW.out.1 h2
      clear h2 HLAW
      go_wp2_with (first
        | (go_at_call 9; refine (alive_calls8 _).mono ?_; rintro e wM ⟨rfl, hb⟩; replace HB := HB.trans (hb.mono HB.size); clear hb))
      go_ret
      exact ⟨rfl, HB⟩
  · have h1 : (e1 != 0) = true := by simpa using h0
    clear h0
    go_wp2_with (first
      | (go_at_call 9; refine (alive_calls8 _).mono ?_; rintro e wM ⟨rfl, hb⟩; replace HB := HB.trans (hb.mono HB.size); clear hb))
    go_ret
    exact ⟨rfl, HB⟩
theorem ChangeTwo_row (A : Option Addr) (cA : Nat) (l : List Fd) (a : Ch) (P : Option Addr) (pc : Nat) (b : Ch) (Q : Option Addr) (qc : Nat) (w : World) (hA : Rd w A (cellsF l)) (hmc : l.length ≤ cA) (hz : (∀ f ∈ l, f.s.size ≤ 281474976710656) ∧ l.length ≤ 281474976710656)
    (hr : (-9223372036854775808 ≤ a.op ∧ a.op ≤ 9223372036854775807) ∧ (0 ≤ a.d.b ∧ a.d.b < 18446744073709551616) ∧ a.q.length ≤ pc ∧ pc ≤ maxLen ∧ Rd w P (cellsI a.q)) (hs : a.s.size ≤ 281474976710656 ∧ a.g.s.size ≤ 281474976710656 ∧ a.d.t.size ≤ 281474976710656 ∧ a.q.length ≤ 281474976710656)
    (hr2 : (-9223372036854775808 ≤ b.op ∧ b.op ≤ 9223372036854775807) ∧ (0 ≤ b.d.b ∧ b.d.b < 18446744073709551616) ∧ b.q.length ≤ qc ∧ qc ≤ maxLen ∧ Rd w Q (cellsI b.q)) (hs2 : b.s.size ≤ 281474976710656 ∧ b.g.s.size ≤ 281474976710656 ∧ b.d.t.size ≤ 281474976710656 ∧ b.q.length ≤ 281474976710656) :
    Calls Try.prog 7 #[.slice A l.length cA, .agg (chL a (.slice P a.q.length pc)).toArray, .agg (chL b (.slice Q b.q.length qc)).toArray] w fun e w' => e = .returned (.bool true) ∧ Below w.heap.size w w' :=
  ChangeTwo_m A cA l l.length rfl hmc (by omega) hz.1 a P a.q.length pc b Q b.q.length qc w hA ⟨hr.1, hr.2.1, hs, rfl, hr.2.2.1, hr.2.2.2.1, hr.2.2.2.2⟩ ⟨hr2.1, hr2.2.1, hs2, rfl, hr2.2.2.1, hr2.2.2.2.1, hr2.2.2.2.2⟩
end Go.Proofs.Ytehcpjodkadfnaa
/- The law ChangeTwo: WHATEVER THE INPUT it tells true, it never panics, and the input reads as it did: the row, out of ChangeTwo_calls. -/
set_option linter.unusedVariables false
set_option linter.unusedSimpArgs false
set_option maxRecDepth 100000
namespace Go.Proofs.Ytehcpjodkadfnaa.changeTwo
open Go.ChangeShapes Go.WideShapes Go.ChangeAt Go.RowKit Go.Joins
open Go.ChangeMaps (open_string shut_string)
theorem own : ownKnob Try.prog.godebug = none := by kernel_rfl
theorem laidOut : laidOutB Try.prog = true := by kernel_rfl
set_option maxRecDepth 100000 in
theorem lifted (os : Os) (started : os.Started) (H : Type) (enc : TypeId × Value → H) :
    ReturnsInHanded {} Try.checked os 7 .any (Rows.changeTwoSpec.pre6 enc Try.prog Try.f7 Rows.changeTwoRow.domain false) (Rows.changeTwoSpec.post enc Try.prog Try.f7 false true false false) := by
  refine returnsInHanded_of_change_sized (C := Try.checked) own started (by kernel_rfl) Try.func7
    (ChangeSpec.witness6 (enc := enc) (C := Try.checked) false ⟨#[], #[.slice none 0 0, .agg #[.int .i64 0, .string ByteArray.empty, .string ByteArray.empty, .int .i64 0, .int .i64 0, .int .i64 0, .int .u64 0, .string ByteArray.empty, .slice none 0 0], .agg #[.int .i64 0, .string ByteArray.empty, .string ByteArray.empty, .int .i64 0, .int .i64 0, .int .i64 0, .int .u64 0, .string ByteArray.empty, .slice none 0 0]], []⟩ 8 (by kernel_rfl) (by kernel_rfl) (by kernel_rfl) (by kernel_rfl)) ?_
  intro W base args ds gs before hval0 hW hcnd hsz0 _
  have hval : ∀ (j : Nat) t v, Try.f7.params[j]? = some t → args[j]? = some v → Value.okWide Try.prog W .any base t v := hval0
  have hW' := hW
  obtain ⟨p, q, hA0, hV, rfl, hfz, hnd⟩ := hW
  have hA : DataW.TrodAll enc Try.prog W 0 (fun _ => true) true Try.f7.params.toList args.toList ds p := hA0
  rw [Try.params7] at hA hval
  obtain ⟨v0, vs0, d0, ds0, p0, q0, hargs, rfl, rfl, h0, r0⟩ := trodAll_cons hA
  obtain ⟨v1, vs1, d1, ds1, p1, q1, rfl, rfl, rfl, h1, r1⟩ := trodAll_cons r0
  obtain ⟨v2, vs2, d2, ds2, p2, q2, rfl, rfl, rfl, h2, r2⟩ := trodAll_cons r1
  obtain ⟨rfl, rfl, rfl⟩ := trodAll_nil r2
  obtain rfl : args = #[v0, v1, v2] := by cases args; simp_all
  obtain ⟨rfl, rfl⟩ := trodVars_none hV
  have k0 := h0
  have lt0 : ∀ x ∈ p0, x.block < W.heap.size := by obtain ⟨m, hm⟩ := k0; exact DataW.trod_lt m _ _ _ hm
  obtain ⟨a0, c0, l0, rfl, e0, f0, g0, s0, z0⟩ := open_fldsz (hval 0 22 v0 rfl rfl) h0
  replace z0 := z0 (SzT.of hsz0 (j := 0) rfl rfl)
  have k1 := h1
  have lt1 : ∀ x ∈ p1, x.block < W.heap.size := by obtain ⟨m, hm⟩ := k1; exact DataW.trod_lt m _ _ _ hm
  obtain ⟨a1, b1, c1, rfl, y1, z1⟩ := open_chg (hval 1 30 v1 rfl rfl) h1
  replace z1 := z1 (SzT.of hsz0 (j := 1) rfl rfl)
  have k2 := h2
  have lt2 : ∀ x ∈ p2, x.block < W.heap.size := by obtain ⟨m, hm⟩ := k2; exact DataW.trod_lt m _ _ _ hm
  obtain ⟨a2, b2, c2, rfl, y2, z2⟩ := open_chg (hval 2 30 v2 rfl rfl) h2
  replace z2 := z2 (SzT.of hsz0 (j := 2) rfl rfl)
  clear hA0 hval0 hsz0
  refine (ChangeTwo_row a0 c0 l0 a1 b1 c1 a2 b2 c2 W g0 e0 z0 y1 z1 y2 z2).mono fun e W' ⟨he, bel⟩ => ?_
  subst he
  exact ⟨_, rfl, _, _, _, [], _, [], hW', trodAll_mk1 (shut_bool Try.underlying4 _), (trodAll_cons_mk (Below.trod laidOut (by kernel_rfl) (of_decide_eq_true (by kernel_rfl)) k0 bel lt0) (trodAll_cons_mk (Below.trod laidOut (by kernel_rfl) (of_decide_eq_true (by kernel_rfl)) k1 bel lt1) (trodAll_cons_mk (Below.trod laidOut (by kernel_rfl) (of_decide_eq_true (by kernel_rfl)) k2 bel lt2) trodAll_mk0))), rfl, bel.frame _, fun h => by cases h⟩
theorem over : Rows.changeTwoRow.holds Try.pinned (OpenSpec.ofChange Rows.changeTwoSpec) :=
  OpenClaim.holds_of_wide 7 Try.f7 rfl rfl rfl rfl rfl rfl rfl ⟨rfl, rfl, rfl, rfl, rfl⟩ rfl rfl rfl rfl rfl (by kernel_rfl) Try.func7 (by kernel_rfl)
    (of_decide_eq_true (by kernel_rfl)) (by unfold Func.isWrapper; first | (rw [if_pos (by decide +kernel)]; kernel_rfl) | (rw [if_neg (by decide +kernel)]; exact ⟨rfl, rfl⟩))
    (fun os started H enc _ => lifted os started H enc)
theorem proved : Rows.ChangeTwoSaid := over
end Go.Proofs.Ytehcpjodkadfnaa.changeTwo
namespace Go.Proofs.Ytehcpjodkadfnaa
/-- The row, under a short name, for the claim. -/
theorem changeTwo_holds : Rows.ChangeTwoSaid := changeTwo.proved
end Go.Proofs.Ytehcpjodkadfnaa
