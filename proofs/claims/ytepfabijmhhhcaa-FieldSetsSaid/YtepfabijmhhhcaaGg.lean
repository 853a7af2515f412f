/- Layer 6 of the heap, fields, seventh part: the walk through places. -/
import Derived.Test.YtepfabijmhhhcaaGf
set_option linter.unusedSimpArgs false
set_option linter.unusedVariables false
namespace Go.Proofs.Ytepfabijmhhhcaa
open Go.RowKit
attribute [local go_sem] Oper.semAt_some

theorem seqF_take {fs : List Fd} {k : Nat} {f : Fd} (hf : fs[k]? = some f) : seqF 0 (fs.take (k + 1)) = seqF 0 (fs.take k) ++ [(atF (endF 0 (fs.take k)) f, f)] ∧ endF 0 (fs.take (k + 1)) = atF (endF 0 (fs.take k)) f + f.n := by
  have e : fs.take (k + 1) = fs.take k ++ [f] := by rw [List.take_add_one, hf]; rfl
  rw [e, seqF_snoc, endF_snoc]
  exact ⟨rfl, rfl⟩
theorem FBox.of {W : World} {b : Nat} {s : ByteArray} {k l : Int} {d : Nat × Nat} (h : W.heap[b]? = some (.cells #[.string s, .int .i64 k, .int .i64 l] 40 d)) : FBox W b s k l := by
  refine ⟨?_, ?_, ?_⟩ <;> simp [World.cell?, h]
set_option maxRecDepth 100000 in
set_option maxHeartbeats 4000000 in
theorem places1_in (n : Nat) (hn : 1 ≤ n) (l Bl : Nat) (A : Option Addr) (c : Nat) (fs : List Fd) (hmay : MayF fs) (hlen : fs.length ≤ 16) (w0 : World) (hA : Rd w0 A (cellsF fs)) (J Jx : List PF → World → Prop) (W : World)
    (hJ : AbidesFrom W.heap.size J)
    (hY : ∀ pre x W1, J pre W1 → pre.length < fs.length → YieldAt Fence.wide (n - 1) Try.prog l (encPF x) W1 fun e W' =>
      (e = .returned (.bool true) ∧ J (pre ++ [x]) W' ∧ KpF w0.heap.size W1 W') ∨ (e = .returned (.bool false) ∧ Jx (pre ++ [x]) W'))
    (hBl : W.cell? ⟨Bl, 0, none⟩ = some (.slice A fs.length c)) (hW : Below w0.heap.size w0 W) (h0 : J [] W) :
    CallsIn Fence.wide n Try.prog 51 #[.func (.yield l) #[] #[], .pointer (some ⟨Bl, 0, none⟩)] W fun e W' => (∃ v, e = .returned v) ∧
      ((∃ ys, ys.map Subtype.val = seqF 0 fs ∧ J ys W') ∨ (∃ pre, True ∧ Jx pre W')) := by
  refine callsIn_of_wp Try.func51 rfl trivial ?_ rfl
  simp only [Try.ntmps51, List.size_toArray, List.length_cons, List.length_nil, Nat.reduceAdd, Nat.reduceSub, Array.replicate_succ, Array.replicate_zero, List.push_toArray, List.append_toArray, List.nil_append, List.cons_append]
  gi_wp2
  gi_loopw [3, 5, 8] (fun nx _ i wr => ∃ (k : Nat) (pre : List PF), k ≤ fs.length ∧ i = .int .i64 k ∧ nx = .int .i64 (endF 0 (fs.take k) : Nat) ∧ pre.map Subtype.val = seqF 0 (fs.take k) ∧ J pre wr ∧ Below w0.heap.size w0 wr) (fun _ _ i _ => fs.length - (intOf i).toNat)
  case atStart => exact ⟨0, [], by omega, rfl, rfl, rfl, h0, hW⟩
  case round =>
    obtain ⟨k, pre, hk, rfl, rfl, hpre, hJs, HB⟩ := hrel
    have hAr := hA.below HB
    by_cases hlt : k < fs.length
    · obtain ⟨f, hf⟩ : ∃ f, fs[k]? = some f := ⟨_, List.getElem?_eq_getElem hlt⟩
      obtain ⟨ad, rfl, c0, c1, c2⟩ := hAr.fld hf
      have hm := hmay f (List.mem_of_getElem? hf)
      have hle := endF_le (nx := 0) (hmay.take k)
      rw [List.length_take, Nat.min_eq_left hk] at hle
      obtain ⟨e1, e2⟩ := seqF_take hf
      have ha := atF_le (nx := endF 0 (fs.take k)) hm
      have hpl : pre.length < fs.length := by
        have := congrArg List.length hpre
        rw [List.length_map, seqF_length, List.length_take, Nat.min_eq_left hk] at this
        omega
      have hn1 := Fd.n_le f
      have hn0 := Fd.n_pos hm
      have HL := Lib.hid f.n_eq.symm
      obtain ⟨nx, hnx⟩ : ∃ nx, endF 0 (fs.take k) = nx := ⟨_, rfl⟩
      rw [hnx] at e1 e2 ha hle ⊢
      obtain ⟨at_, hat⟩ : ∃ a, atF nx f = a := ⟨_, rfl⟩
      rw [hat] at e1 e2 ha
      have E1 := Lib.hid e1
      have E2 := Lib.hid e2
      have HP := Lib.hid hpre
      have hb0 : (wr.alloc (.cells #[.string f.s, .int .i64 f.k, .int .i64 f.l] 40)).heap[wr.heap.size]? = some (.cells #[.string f.s, .int .i64 f.k, .int .i64 f.l] 40 (0, 0)) := World.alloc_heap_new wr _
      have hJ0 : J pre (wr.alloc (.cells #[.string f.s, .int .i64 f.k, .int .i64 f.l] 40)) := hJ _ _ _ none hJs (World.grownBy_alloc _ _ _) (fun _ h => by cases h)
      have HB0 := HB.alloc HB.size (.cells #[.string f.s, .int .i64 f.k, .int .i64 f.l] 40)
      clear e1 e2 hpre hnx hf hA hAr hJs
      by_cases hk12 : f.k = 12
      · obtain rfl : nx = at_ := by rw [← hat, atF, if_pos hk12]
        clear hat
        have hk12' : (f.k != 12) = false := by rw [hk12]; rfl
        obtain ⟨fn, tmps, assign, body, hy, hR⟩ := hY _ ⟨(nx, f), by show nx ≤ _; omega⟩ _ hJ0 hpl
        dsimp only [encPF] at hy
        clear hk12
        gi_wp2
        refine hR.mono ?_
        rintro e W3 (⟨rfl, hJ3, hk3⟩ | ⟨rfl, hJx3⟩)
        · obtain ⟨d0, d1, d2⟩ := FBox.of (hk3.fld _ _ _ hb0)
          gi_wp2_with (refine ⟨trivial, ?_⟩; gi_at_call 37; refine (callsIn_wide.2 (Long_is _ _ _ _ HL.out _)).mono ?_; rintro e w4 ⟨rfl, hb4⟩)
          go_roundw
          case rel => exact ⟨k + 1, pre ++ [⟨(nx, f), by show nx ≤ _; omega⟩], by omega, by go_num, by rw [E2.out]; go_num, by rw [List.map_append, HP.out, E1.out]; rfl, hJ _ _ _ none hJ3 (grown_of_below hb4) (fun _ h => by cases h), (HB0.trans hk3.below).trans (hb4.mono (Nat.le_trans (Nat.le_trans HB0.size hk3.below.size) (Nat.le_refl _)))⟩
          case measure => simp [intOf]; omega
        · gi_wp2
          refine bodyPost_ret (results_none rfl _ _ _) rfl ?_
          exact ⟨⟨_, rfl⟩, .inr ⟨_, trivial, hJx3⟩⟩
      · have hup : upN nx f.n = at_ := by rw [← hat, atF, if_neg hk12]
        have HU := Lib.hid hup
        clear hat hup
        have hk12' : (f.k != 12) = true := by simpa using hk12
        have F0 := FBox.new wr f.s f.k f.l
        have hpl2 : pre.length < fs.length := hpl
        clear hk12
        gi_wp2_with (first
          | (refine ⟨trivial, ?_⟩; gi_at_call 37; refine (callsIn_wide.2 (Long_is _ _ _ _ HL.out _)).mono ?_; rintro e w2 ⟨rfl, hb2⟩; obtain ⟨g0, g1, g2⟩ := F0.below hb2)
          | (refine ⟨trivial, ?_⟩; gi_at_call 38; refine (callsIn_wide.2 (up_calls nx f.n hn0 (by omega) _)).mono ?_; rintro e w3 ⟨rfl, rfl⟩; rw [HU.out]; obtain ⟨fn, tmps, assign, body, hy, hR⟩ := hY _ ⟨(at_, f), by show at_ ≤ _; omega⟩ _ (hJ _ _ _ none hJ0 (grown_of_below hb2) (fun _ h => by cases h)) hpl; dsimp only [encPF] at hy))
        refine hR.mono ?_
        rintro e W3 (⟨rfl, hJ3, hk3⟩ | ⟨rfl, hJx3⟩)
        · obtain ⟨d0, d1, d2⟩ := FBox.of (hk3.fld _ _ _ ((hb2.block _ (by simp)).trans hb0))
          gi_wp2_with (refine ⟨trivial, ?_⟩; gi_at_call 37; refine (callsIn_wide.2 (Long_is _ _ _ _ HL.out _)).mono ?_; rintro e w4 ⟨rfl, hb4⟩)
          go_roundw
          case rel => exact ⟨k + 1, pre ++ [⟨(at_, f), by show at_ ≤ _; omega⟩], by omega, by go_num, by rw [E2.out]; go_num, by rw [List.map_append, HP.out, E1.out]; rfl, hJ _ _ _ none hJ3 (grown_of_below hb4) (fun _ h => by cases h), ((HB0.trans (hb2.mono HB0.size)).trans hk3.below).trans (hb4.mono (Nat.le_trans (Nat.le_trans HB0.size hb2.size) hk3.below.size))⟩
          case measure => simp [intOf]; omega
        · gi_wp2
          refine bodyPost_ret (results_none rfl _ _ _) rfl ?_
          exact ⟨⟨_, rfl⟩, .inr ⟨_, trivial, hJx3⟩⟩
    · obtain rfl : k = fs.length := by omega
      rw [List.take_length] at hpre
      clear hA hAr hJ hY
      gi_wp2
      go_end0
      exact ⟨⟨_, rfl⟩, .inl ⟨pre, hpre, hJs⟩⟩
end Go.Proofs.Ytepfabijmhhhcaa
