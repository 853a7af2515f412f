/- The law ChangeRight: WHATEVER THE INPUT it tells true, it never panics, and the input reads as it did. Merged out of: Qr Zr. -/
import Derived.Test.YtehcpjodkadfnaaVm
import Derived.Test.YtehcpjodkadfnaaVn
import Derived.Test.YtehcpjodkadfnaaRows
/- ChangeRight, walked: it tells true. -/
set_option linter.unusedSimpArgs false
set_option linter.unusedVariables false
set_option maxRecDepth 100000
namespace Go.Proofs.Ytehcpjodkadfnaa
open Go.RowKit Go.Lib

/-- a change, as a law's argument -/
def ChIn (w : World) (c : Ch) (Q : Option Addr) (n qc : Nat) : Prop := (-9223372036854775808 ≤ c.op ∧ c.op ≤ 9223372036854775807) ∧ (0 ≤ c.d.b ∧ c.d.b < 18446744073709551616) ∧ (c.s.size ≤ 281474976710656 ∧ c.g.s.size ≤ 281474976710656 ∧ c.d.t.size ≤ 281474976710656 ∧ c.q.length ≤ 281474976710656) ∧ c.q.length = n ∧ n ≤ qc ∧ qc ≤ maxLen ∧ Rd w Q (cellsI c.q)
theorem make_len {l : List Fd} {c : Ch} (h : makeE l c = 0) : (newF l c).length = if c.op = 1 then l.length + 1 else if c.op = 2 then l.length - 1 else l.length := by
  obtain ⟨hT, hr, hf, e⟩ := makeE_right h
  unfold makeE at h
  split at h
  · rename_i hs
    unfold stepE at hs
    split at hs; · omega
    split at hs; · omega
    rename_i h1
    split at hs; · omega
    rename_i h2
    split at hs; · omega
    split at hs; · omega
    split at hs; · omega
    rename_i h5
    unfold newF
    split
    · simp
    · split
      · rename_i e2
        rw [List.length_eraseIdx_of_lt (atC_lt (fun h' => h2 ⟨by omega, by omega, h'⟩))]
      · split
        · simp
        · split
          · simp
          · rw [List.length_map]
            exact perm_len (Bool.of_not_eq_false fun hc => h5 ⟨by omega, hc⟩)
  · rename_i hs; exact absurd h hs
set_option maxHeartbeats 4000000 in
theorem ChangeRight_err (A : Option Addr) (cA : Nat) (l : List Fd) (m : Nat) (hm : l.length = m) (hmc : m ≤ cA) (hl : m ≤ 9223372036854775807) (hs : ∀ f ∈ l, f.s.size ≤ 281474976710656) (c : Ch) (Q : Option Addr) (n qc : Nat) (w : World) (hA : Rd w A (cellsF l)) (hc : ChIn w c Q n qc) (he : makeE l c ≠ 0) :
    Calls Try.prog 5 #[.slice A m cA, .agg #[.int .i64 c.op, .string c.s, .string c.g.s, .int .i64 c.g.k, .int .i64 c.g.l, .int .i64 c.d.k, .int .u64 c.d.b, .string c.d.t, .slice Q n qc]] w fun e w' => e = .returned (.bool true) ∧ Below w.heap.size w w' := by
  obtain ⟨⟨p0, p1⟩, ⟨x0, x1⟩, ⟨z0, z1, z2, z3⟩, hn, hqc, hqm, RQ⟩ := hc
  obtain ⟨q, hq⟩ : ∃ q, makeE l c = q := ⟨_, rfl⟩
  have hT : makeT l c = Tb.z := by rw [makeT, if_neg he]
  rw [hq] at he
  have yq : (q != 0) = true := by simpa using he
  have bb1 := below_new (w := w) (.cells #[.int .i64 c.op, .string c.s, .string c.g.s, .int .i64 c.g.k, .int .i64 c.g.l, .int .i64 c.d.k, .int .u64 c.d.b, .string c.d.t, .slice Q n qc] 30)
  have bb2 := below_new (w := w.alloc (.cells #[.int .i64 c.op, .string c.s, .string c.g.s, .int .i64 c.g.k, .int .i64 c.g.l, .int .i64 c.d.k, .int .u64 c.d.b, .string c.d.t, .slice Q n qc] 30)) (.cells #[.int .i64 c.op, .string c.s, .string c.g.s, .int .i64 c.g.k, .int .i64 c.g.l, .int .i64 c.d.k, .int .u64 c.d.b, .string c.d.t, .slice Q n qc] 30)
  have C : CBox _ _ c (.slice Q n qc) 30 := (OBox.new w (chL c (.slice Q n qc)) 30).below bb2
  have C0 : CBox _ _ c (.slice Q n qc) 30 := OBox.new w (chL c (.slice Q n qc)) 30
  have HK : Rd ((w.alloc (.cells #[.int .i64 c.op, .string c.s, .string c.g.s, .int .i64 c.g.k, .int .i64 c.g.l, .int .i64 c.d.k, .int .u64 c.d.b, .string c.d.t, .slice Q n qc] 30)).alloc (.cells #[.int .i64 c.op, .string c.s, .string c.g.s, .int .i64 c.g.k, .int .i64 c.g.l, .int .i64 c.d.k, .int .u64 c.d.b, .string c.d.t, .slice Q n qc] 30)) (some ⟨w.heap.size + 1, 0, none⟩) (cellsC [(c, .slice Q n qc)]) := by
    have := rd_new (w.alloc (.cells #[.int .i64 c.op, .string c.s, .string c.g.s, .int .i64 c.g.k, .int .i64 c.g.l, .int .i64 c.d.k, .int .u64 c.d.b, .string c.d.t, .slice Q n qc] 30)) (cellsC [(c, .slice Q n qc)]) 30
    rw [World.size_alloc] at this
    exact this
  have HB := below_seq bb1 bb2
  have hA2 := hA.below HB
  have RQ2 := RQ.below HB
  have HCH : ∀ p ∈ [(c, Value.slice Q n qc)], ChO ((w.alloc (.cells #[.int .i64 c.op, .string c.s, .string c.g.s, .int .i64 c.g.k, .int .i64 c.g.l, .int .i64 c.d.k, .int .u64 c.d.b, .string c.d.t, .slice Q n qc] 30)).alloc (.cells #[.int .i64 c.op, .string c.s, .string c.g.s, .int .i64 c.g.k, .int .i64 c.g.l, .int .i64 c.d.k, .int .u64 c.d.b, .string c.d.t, .slice Q n qc] 30)) p := by
    intro p hp
    simp at hp
    subst hp
    exact ⟨Q, qc, by rw [← hn], by rw [hn]; exact hqc, hqm, RQ2⟩
  have HCS : ∀ p ∈ [(c, Value.slice Q n qc)], ChS p := by
    intro p hp
    simp at hp
    subst hp
    exact ⟨z0, z1, z2, z3⟩
  obtain ⟨b0, b1, b2, b3, b4, b5, b6, b7, b8⟩ := C0.c9
  obtain ⟨a0, a1, a2, a3, a4, a5, a6, a7, a8⟩ := C.c9
  have HM := Lib.hid hm
  have HN := Lib.hid hn
  have HE := Lib.hid hq
  have HT := Lib.hid hT
  clear hm hn hq hT he bb1 bb2 C0
  go_enter Try.func5, Try.ntmps5
  go_wp2_with (first
    | (go_at_call 8; refine (few_m A cA l m HM.out _ _ [(c, .slice Q n qc)] 1 rfl _ hA2 HK HCH hs HCS hl (by omega)).mono ?_; rintro e W1 ⟨rf, rfl, hrf, hb⟩; have HRF := Lib.hid hrf; replace HB := HB.trans (hb.mono HB.size); replace C := C.below hb; obtain ⟨a0, a1, a2, a3, a4, a5, a6, a7, a8⟩ := C.c9; replace hA2 := hA2.below hb; replace RQ2 := RQ2.below hb; clear hrf hb HK HCH)
    | (go_at_call 9; refine (alive_calls8 _).mono ?_; rintro e wM ⟨rfl, hb⟩; replace HB := HB.trans (hb.mono HB.size); replace hA2 := hA2.below hb; replace RQ2 := RQ2.below hb; replace C := C.below hb; clear hb)
    | (go_at_call 12; refine (Apply_m l c m HM.out hl A cA hmc Q n qc HN.out (by have h3 := HRF.out (by simpa using ‹(!rf) = false›); have h4 := h3.2.2 _ (List.mem_singleton_self _); have h5 := HN.out; simp at h4; omega) hqc p0 p1 x0 x1 _ hA2 RQ2).mono ?_; rintro e W3 ⟨B, d, rfl, hd, RB, hb⟩; rw [HE.out, HT.out]; replace HB := HB.trans (hb.mono HB.size); replace hA2 := hA2.below hb; replace RQ2 := RQ2.below hb; replace C := C.below hb; clear hb RB hd))
  all_goals go_ret
  all_goals exact ⟨rfl, HB⟩
set_option maxHeartbeats 4000000 in
theorem ChangeRight_ok (A : Option Addr) (cA : Nat) (l : List Fd) (m : Nat) (hm : l.length = m) (hmc : m ≤ cA) (hl : m ≤ 9223372036854775807) (hs : ∀ f ∈ l, f.s.size ≤ 281474976710656) (c : Ch) (Q : Option Addr) (n qc : Nat) (w : World) (hA : Rd w A (cellsF l)) (hc : ChIn w c Q n qc) (he : makeE l c = 0) (mz : Nat) (hz : (newF l c).length = mz) (u1 u2 : Bool) (h1 : (c.op == 1) = u1) (h2 : (c.op == 2) = u2) (hle : ((mz : Int) == (m : Int) + if u1 = true then 1 else if u2 = true then -1 else 0) = true) (hb12 : ¬(u1 = true ∧ u2 = true)) :
    Calls Try.prog 5 #[.slice A m cA, .agg #[.int .i64 c.op, .string c.s, .string c.g.s, .int .i64 c.g.k, .int .i64 c.g.l, .int .i64 c.d.k, .int .u64 c.d.b, .string c.d.t, .slice Q n qc]] w fun e w' => e = .returned (.bool true) ∧ Below w.heap.size w w' := by
  obtain ⟨⟨p0, p1⟩, ⟨x0, x1⟩, ⟨z0, z1, z2, z3⟩, hn, hqc, hqm, RQ⟩ := hc
  obtain ⟨hTr, hr, hf, hT⟩ := makeE_right he
  have hTn : (makeT l c).n.length = mz := by rw [hT]; exact hz
  have hTf : cellsF (makeT l c).n = cellsF (newF l c) := by rw [hT]; rfl
  have bb1 := below_new (w := w) (.cells #[.int .i64 c.op, .string c.s, .string c.g.s, .int .i64 c.g.k, .int .i64 c.g.l, .int .i64 c.d.k, .int .u64 c.d.b, .string c.d.t, .slice Q n qc] 30)
  have bb2 := below_new (w := w.alloc (.cells #[.int .i64 c.op, .string c.s, .string c.g.s, .int .i64 c.g.k, .int .i64 c.g.l, .int .i64 c.d.k, .int .u64 c.d.b, .string c.d.t, .slice Q n qc] 30)) (.cells #[.int .i64 c.op, .string c.s, .string c.g.s, .int .i64 c.g.k, .int .i64 c.g.l, .int .i64 c.d.k, .int .u64 c.d.b, .string c.d.t, .slice Q n qc] 30)
  have C : CBox _ _ c (.slice Q n qc) 30 := (OBox.new w (chL c (.slice Q n qc)) 30).below bb2
  have C0 : CBox _ _ c (.slice Q n qc) 30 := OBox.new w (chL c (.slice Q n qc)) 30
  have HK : Rd ((w.alloc (.cells #[.int .i64 c.op, .string c.s, .string c.g.s, .int .i64 c.g.k, .int .i64 c.g.l, .int .i64 c.d.k, .int .u64 c.d.b, .string c.d.t, .slice Q n qc] 30)).alloc (.cells #[.int .i64 c.op, .string c.s, .string c.g.s, .int .i64 c.g.k, .int .i64 c.g.l, .int .i64 c.d.k, .int .u64 c.d.b, .string c.d.t, .slice Q n qc] 30)) (some ⟨w.heap.size + 1, 0, none⟩) (cellsC [(c, .slice Q n qc)]) := by
    have := rd_new (w.alloc (.cells #[.int .i64 c.op, .string c.s, .string c.g.s, .int .i64 c.g.k, .int .i64 c.g.l, .int .i64 c.d.k, .int .u64 c.d.b, .string c.d.t, .slice Q n qc] 30)) (cellsC [(c, .slice Q n qc)]) 30
    rw [World.size_alloc] at this
    exact this
  have HB := below_seq bb1 bb2
  have hA2 := hA.below HB
  have RQ2 := RQ.below HB
  have HCH : ∀ p ∈ [(c, Value.slice Q n qc)], ChO ((w.alloc (.cells #[.int .i64 c.op, .string c.s, .string c.g.s, .int .i64 c.g.k, .int .i64 c.g.l, .int .i64 c.d.k, .int .u64 c.d.b, .string c.d.t, .slice Q n qc] 30)).alloc (.cells #[.int .i64 c.op, .string c.s, .string c.g.s, .int .i64 c.g.k, .int .i64 c.g.l, .int .i64 c.d.k, .int .u64 c.d.b, .string c.d.t, .slice Q n qc] 30)) p := by
    intro p hp
    simp at hp
    subst hp
    exact ⟨Q, qc, by rw [← hn], by rw [hn]; exact hqc, hqm, RQ2⟩
  have HCS : ∀ p ∈ [(c, Value.slice Q n qc)], ChS p := by
    intro p hp
    simp at hp
    subst hp
    exact ⟨z0, z1, z2, z3⟩
  obtain ⟨b0, b1, b2, b3, b4, b5, b6, b7, b8⟩ := C0.c9
  obtain ⟨a0, a1, a2, a3, a4, a5, a6, a7, a8⟩ := C.c9
  have HM := Lib.hid hm
  have HN := Lib.hid hn
  have HE := Lib.hid he
  have HZ := Lib.hid hz
  have HR := Lib.hid hr
  have HF := Lib.hid hf
  have HTN := Lib.hid hTn
  have HTF := Lib.hid hTf
  clear hm hn he bb1 bb2 C0 hTr hr hf hT hz hTn hTf
  have tok1 := True.intro
  go_enter Try.func5, Try.ntmps5
  cases u1 <;> cases u2
  all_goals first | (exact absurd ⟨rfl, rfl⟩ hb12) | skip
  all_goals (clear hb12; simp only [Bool.false_eq_true, if_true, if_false] at hle)
  all_goals go_wp2_with (first
    | (go_at_call 8; refine (few_m A cA l m HM.out _ _ [(c, .slice Q n qc)] 1 rfl _ hA2 HK HCH hs HCS hl (by omega)).mono ?_; rintro e W1 ⟨rf, rfl, hrf, hb⟩; have HRF := Lib.hid hrf; replace HB := HB.trans (hb.mono HB.size); replace C := C.below hb; obtain ⟨a0, a1, a2, a3, a4, a5, a6, a7, a8⟩ := C.c9; replace hA2 := hA2.below hb; replace RQ2 := RQ2.below hb; clear hrf hb HK HCH)
    | (go_at_call 9; refine (alive_calls8 _).mono ?_; rintro e wM ⟨rfl, hb⟩; replace HB := HB.trans (hb.mono HB.size); replace hA2 := hA2.below hb; replace RQ2 := RQ2.below hb; replace C := C.below hb; try (replace RN := RN.below hb); clear hb)
    | (have _t := tok1; go_at_call 20; refine (Right_m A cA m l HM.out true HR.out _ hA2 hl).mono ?_; rintro e wR ⟨rfl, hb⟩; replace HB := HB.trans (hb.mono HB.size); replace RN := RN.below hb; clear hb tok1)
    | (go_at_call 20; refine (Right_m _ _ mz (newF l c) HZ.out true HF.out _ RN (by have h6 := eq_of_beq hle; omega)).mono ?_; rintro e wR ⟨rfl, hb⟩; replace HB := HB.trans (hb.mono HB.size); clear hb)
    | (go_at_call 12; refine (Apply_m l c m HM.out hl A cA hmc Q n qc HN.out (by have h3 := HRF.out (by simpa using ‹(!rf) = false›); have h4 := h3.2.2 _ (List.mem_singleton_self _); have h5 := HN.out; simp at h4; omega) hqc p0 p1 x0 x1 _ hA2 RQ2).mono ?_; rintro e W3 ⟨B, d, rfl, hd, RB, hb⟩; rw [HE.out, HTN.out]; rw [HTF.out] at RB; obtain ⟨a0, a1, a2, a3, a4, a5, a6, a7, a8⟩ := (C.below hb).c9; replace HB := HB.trans (hb.mono HB.size); replace hA2 := hA2.below hb; replace RQ2 := RQ2.below hb; replace C := C.below hb; have RN := RB.rd; have HSM : m ≤ 40 := (by have h3 := HRF.out (by simpa using ‹(!rf) = false›); have h5 := HM.out; omega); clear hb RB hd))
  all_goals go_ret
  all_goals first
    | exact ⟨rfl, HB⟩
    | exact ⟨ret_bool (by have h6 := eq_of_beq hle; exact beq_iff_eq.2 (by omega)), HB⟩
theorem ChangeRight_calls (A : Option Addr) (cA : Nat) (l : List Fd) (m : Nat) (hm : l.length = m) (hmc : m ≤ cA) (hl : m ≤ 9223372036854775807) (hs : ∀ f ∈ l, f.s.size ≤ 281474976710656) (c : Ch) (Q : Option Addr) (n qc : Nat) (w : World) (hA : Rd w A (cellsF l)) (hc : ChIn w c Q n qc) :
    Calls Try.prog 5 #[.slice A m cA, .agg #[.int .i64 c.op, .string c.s, .string c.g.s, .int .i64 c.g.k, .int .i64 c.g.l, .int .i64 c.d.k, .int .u64 c.d.b, .string c.d.t, .slice Q n qc]] w fun e w' => e = .returned (.bool true) ∧ Below w.heap.size w w' := by
  by_cases he : makeE l c = 0
  · have hz := make_len he
    refine ChangeRight_ok A cA l m hm hmc hl hs c Q n qc w hA hc he _ rfl _ _ rfl rfl ?_ ?_
    · rw [hz, ← hm]
      have h0 : c.op = 2 → 0 < l.length := by
        intro h2
        obtain ⟨-, -, -, -⟩ := makeE_right he
        rcases Nat.eq_zero_or_pos l.length with h | h
        · exfalso
          have : l = [] := List.eq_nil_of_length_eq_zero h
          subst this
          have hf0 : findZ ([] : List Fd) c.s = -1 := rfl
          unfold makeE stepE at he
          simp only [h2, hf0] at he
          split at he <;> rename_i ha <;> revert ha he <;> (cases rightF ([] : List Fd)) <;> simp
        · exact h
      refine beq_iff_eq.2 ?_
      by_cases h1 : c.op = 1
      · simp [h1]
      · by_cases h2 : c.op = 2
        · have := h0 h2
          simp [h1, h2]; omega
        · simp [h1, h2]
    · intro ⟨h1, h2⟩
      have e1 := eq_of_beq h1
      have e2 := eq_of_beq h2
      omega
  · exact ChangeRight_err A cA l m hm hmc hl hs c Q n qc w hA hc he
theorem ChangeRight_row (A : Option Addr) (cA : Nat) (l : List Fd) (c : Ch) (Q : Option Addr) (qc : Nat) (w : World) (hA : Rd w A (cellsF l)) (hmc : l.length ≤ cA) (hz : (∀ f ∈ l, f.s.size ≤ 281474976710656) ∧ l.length ≤ 281474976710656)
    (hr : (-9223372036854775808 ≤ c.op ∧ c.op ≤ 9223372036854775807) ∧ (0 ≤ c.d.b ∧ c.d.b < 18446744073709551616) ∧ c.q.length ≤ qc ∧ qc ≤ maxLen ∧ Rd w Q (cellsI c.q)) (hs : c.s.size ≤ 281474976710656 ∧ c.g.s.size ≤ 281474976710656 ∧ c.d.t.size ≤ 281474976710656 ∧ c.q.length ≤ 281474976710656) :
    Calls Try.prog 5 #[.slice A l.length cA, .agg (chL c (.slice Q c.q.length qc)).toArray] w fun e w' => e = .returned (.bool true) ∧ Below w.heap.size w w' :=
  ChangeRight_calls A cA l l.length rfl hmc (by omega) hz.1 c Q c.q.length qc w hA ⟨hr.1, hr.2.1, hs, rfl, hr.2.2.1, hr.2.2.2.1, hr.2.2.2.2⟩
end Go.Proofs.Ytehcpjodkadfnaa
/- The law ChangeRight: WHATEVER THE INPUT it tells true, it never panics, and the input reads as it did: the row, out of ChangeRight_calls. -/
set_option linter.unusedVariables false
set_option linter.unusedSimpArgs false
set_option maxRecDepth 100000
namespace Go.Proofs.Ytehcpjodkadfnaa.changeRight
open Go.ChangeShapes Go.WideShapes Go.ChangeAt Go.RowKit Go.Joins
open Go.ChangeMaps (open_string shut_string)
theorem own : ownKnob Try.prog.godebug = none := by kernel_rfl
theorem laidOut : laidOutB Try.prog = true := by kernel_rfl
set_option maxRecDepth 100000 in
theorem lifted (os : Os) (started : os.Started) (H : Type) (enc : TypeId × Value → H) :
    ReturnsInHanded {} Try.checked os 5 .any (Rows.changeRightSpec.pre6 enc Try.prog Try.f5 Rows.changeRightRow.domain false) (Rows.changeRightSpec.post enc Try.prog Try.f5 false true false false) := by
  refine returnsInHanded_of_change_sized (C := Try.checked) own started (by kernel_rfl) Try.func5
    (ChangeSpec.witness6 (enc := enc) (C := Try.checked) false ⟨#[], #[.slice none 0 0, .agg #[.int .i64 0, .string ByteArray.empty, .string ByteArray.empty, .int .i64 0, .int .i64 0, .int .i64 0, .int .u64 0, .string ByteArray.empty, .slice none 0 0]], []⟩ 8 (by kernel_rfl) (by kernel_rfl) (by kernel_rfl) (by kernel_rfl)) ?_
  intro W base args ds gs before hval0 hW hcnd hsz0 _
  have hval : ∀ (j : Nat) t v, Try.f5.params[j]? = some t → args[j]? = some v → Value.okWide Try.prog W .any base t v := hval0
  have hW' := hW
  obtain ⟨p, q, hA0, hV, rfl, hfz, hnd⟩ := hW
  have hA : DataW.TrodAll enc Try.prog W 0 (fun _ => true) true Try.f5.params.toList args.toList ds p := hA0
  rw [Try.params5] at hA hval
  obtain ⟨v0, vs0, d0, ds0, p0, q0, hargs, rfl, rfl, h0, r0⟩ := trodAll_cons hA
  obtain ⟨v1, vs1, d1, ds1, p1, q1, rfl, rfl, rfl, h1, r1⟩ := trodAll_cons r0
  obtain ⟨rfl, rfl, rfl⟩ := trodAll_nil r1
  obtain rfl : args = #[v0, v1] := by cases args; simp_all
  obtain ⟨rfl, rfl⟩ := trodVars_none hV
  have k0 := h0
  have lt0 : ∀ x ∈ p0, x.block < W.heap.size := by obtain ⟨m, hm⟩ := k0; exact DataW.trod_lt m _ _ _ hm
  obtain ⟨a0, c0, l0, rfl, e0, f0, g0, s0, z0⟩ := open_fldsz (hval 0 22 v0 rfl rfl) h0
  replace z0 := z0 (SzT.of hsz0 (j := 0) rfl rfl)
  have k1 := h1
  have lt1 : ∀ x ∈ p1, x.block < W.heap.size := by obtain ⟨m, hm⟩ := k1; exact DataW.trod_lt m _ _ _ hm
  obtain ⟨a1, b1, c1, rfl, r1, z1⟩ := open_chg (hval 1 30 v1 rfl rfl) h1
  replace z1 := z1 (SzT.of hsz0 (j := 1) rfl rfl)
  clear hA0 hval0 hsz0
  refine (ChangeRight_row a0 c0 l0 a1 b1 c1 W g0 e0 z0 r1 z1).mono fun e W' ⟨he, bel⟩ => ?_
  subst he
  exact ⟨_, rfl, _, _, _, [], _, [], hW', trodAll_mk1 (shut_bool Try.underlying4 _), (trodAll_cons_mk (Below.trod laidOut (by kernel_rfl) (of_decide_eq_true (by kernel_rfl)) k0 bel lt0) (trodAll_cons_mk (Below.trod laidOut (by kernel_rfl) (of_decide_eq_true (by kernel_rfl)) k1 bel lt1) trodAll_mk0)), rfl, bel.frame _, fun h => by cases h⟩
theorem over : Rows.changeRightRow.holds Try.pinned (OpenSpec.ofChange Rows.changeRightSpec) :=
  OpenClaim.holds_of_wide 5 Try.f5 rfl rfl rfl rfl rfl rfl rfl ⟨rfl, rfl, rfl, rfl, rfl⟩ rfl rfl rfl rfl rfl (by kernel_rfl) Try.func5 (by kernel_rfl)
    (of_decide_eq_true (by kernel_rfl)) (by unfold Func.isWrapper; first | (rw [if_pos (by decide +kernel)]; kernel_rfl) | (rw [if_neg (by decide +kernel)]; exact ⟨rfl, rfl⟩))
    (fun os started H enc _ => lifted os started H enc)
theorem proved : Rows.ChangeRightSaid := over
end Go.Proofs.Ytehcpjodkadfnaa.changeRight
namespace Go.Proofs.Ytehcpjodkadfnaa
/-- The row, under a short name, for the claim. -/
theorem changeRight_holds : Rows.ChangeRightSaid := changeRight.proved
end Go.Proofs.Ytehcpjodkadfnaa
