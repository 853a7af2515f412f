/- KindValues, walked: it tells true. -/
import Derived.Test.YtefbogpobejoeaaWv
import Derived.Deep.DeepCutAuto
set_option linter.unusedSimpArgs false
set_option linter.unusedVariables false
namespace Go.Proofs.Ytefbogpobejoeaa
open Go.RowKit

/-- a row of bytes that may be turned to a string -/
structure RdC (w : World) (A : Option Addr) (l : List UInt8) (c : Nat) : Prop where
  rd : Rd w A (bytesV l)
theorem RdC.conv {w : World} {A : Option Addr} {l : List UInt8} {c : Nat} (h : RdC w A l c) : (convert 43 9 (.slice A l.length c)).run Try.prog w = .ok (.string (strL l)) w := conv_str h.rd c
theorem RdC.below {w w1 : World} {A : Option Addr} {l : List UInt8} {c : Nat} (h : RdC w A l c) (hb : Below w.heap.size w w1) : RdC w1 A l c := ⟨h.rd.below hb⟩
theorem Zero_is (s : ByteArray) (k l : Int) (v : Value) (h : zeroV k l = v) (w : World) : Calls Try.prog 20 #[.agg #[.string s, .int .i64 k, .int .i64 l]] w fun e w' => e = .returned v ∧ Below w.heap.size w w' := h ▸ Zero_calls s k l w
theorem rZero_is (s : ByteArray) (k l : Int) (v : Value) (h : zeroV k l = v) (w : World) : Calls Try.prog 28 #[.agg #[.string s, .int .i64 k, .int .i64 l]] w fun e w' => e = .returned v ∧ Below w.heap.size w w' := h ▸ rZero_calls s k l w
set_option maxHeartbeats 1600000 in
theorem KindValues_calls (vk bits : Int) (tx s : ByteArray) (k fl : Int) (A : Option Addr) (c : Nat) (l : List UInt8) (w : World) (v0 : -9223372036854775808 ≤ vk) (v1 : vk ≤ 9223372036854775807) (x0 : 0 ≤ bits) (x1 : bits < 18446744073709551616) (hs : tx.size ≤ maxLen)
    (k0 : -9223372036854775808 ≤ k) (k1 : k ≤ 9223372036854775807) (l0 : -9223372036854775808 ≤ fl) (l1 : fl ≤ 9223372036854775807) (hs1 : s.size ≤ maxLen) (hlc : l.length ≤ c) (hcm : c ≤ maxLen) (hA : Rd w A (bytesV l)) :
    Calls Try.prog 10 #[.agg #[.int .i64 vk, .int .u64 bits, .string tx], .agg #[.string s, .int .i64 k, .int .i64 fl], .slice A l.length c] w fun e w' => e = .returned (.bool true) ∧ Below w.heap.size w w' := by
  have HB : Below w.heap.size w ((w.alloc (.cells #[.int .i64 vk, .int .u64 bits, .string tx] 24)).alloc (.cells #[.string s, .int .i64 k, .int .i64 fl] 26)) := (below_new _).alloc (by simp) _
  clear v0 v1 k0 k1 l0 l1 hs1 hs hlc hcm
  by_cases hlen : 1000 < tx.size ∨ 1000 < l.length
  · have ht : decide ((1000 : Int) < (tx.size : Int)) = true ∨ (decide ((1000 : Int) < (tx.size : Int)) = false ∧ decide ((1000 : Int) < (l.length : Int)) = true) := by simp; omega
    clear hlen
    rcases ht with ht | ⟨ht, ht2⟩
    all_goals
      go_enter Try.func10, Try.ntmps10
      go_wp2_with (first
        | (go_at_call 11; refine (alive_calls _).mono ?_; rintro e w6 ⟨rfl, hb⟩; obtain ⟨hc6, hf6⟩ := bcell hb; obtain ⟨r0, r1⟩ : w.heap.size < w6.heap.size ∧ w.heap.size + 1 < w6.heap.size := (by have hz_ := hb.size; (try simp at hz_); omega); have n_ : Below w.heap.size w _ := below_seq (by repeat (first | exact HB | refine Below.setCell ?_ (by dsimp only; omega) _ | refine Below.alloc ?_ (by have hs_ := HB.size; first | (simp; done) | (simp; omega) | omega) _ | apply Below.drew)) hb; clear HB; have HB := n_; clear n_))
      all_goals
        go_ret
        exact ⟨ret_bool rfl, HB⟩
  · obtain ⟨ht, ht2⟩ : decide ((1000 : Int) < (tx.size : Int)) = false ∧ decide ((1000 : Int) < (l.length : Int)) = false := by simp; omega
    have hl : l.length ≤ 1000 := by omega
    clear hlen
    obtain ⟨LQ, hLQ⟩ : ∃ L, encQ vk bits tx k fl = L := ⟨_, rfl⟩
    obtain ⟨q, hq⟩ : ∃ q, encE vk bits tx k fl = q := ⟨_, rfl⟩
    have hES : encS vk bits tx k fl = strL LQ := by
      rw [← hLQ, encS, encQ]
      split <;> rfl
    obtain ⟨a0, a1, a2, hdv⟩ : ∃ a0 a1 a2, decV l k fl = .agg #[.int .i64 a0, .int .u64 a1, .string a2] := by
      unfold decV
      split
      · exact ⟨_, _, _, rfl⟩
      · exact ⟨_, _, _, rfl⟩
    obtain ⟨de, hde⟩ : ∃ z, decE l k fl = z := ⟨_, rfl⟩
    obtain ⟨rb, hrb⟩ : ∃ rb, rightB vk bits tx k fl = rb := ⟨_, rfl⟩
    obtain ⟨lz, hlz⟩ : ∃ z, longZ k fl = z := ⟨_, rfl⟩
    obtain ⟨z0, z1, z2, hzv⟩ : ∃ a0 a1 a2, zeroV k fl = .agg #[.int .i64 a0, .int .u64 a1, .string a2] := by
      unfold zeroV
      split
      · exact ⟨_, _, _, rfl⟩
      · exact ⟨_, _, _, rfl⟩
    have HLQ := Lib.hid hLQ; have HQ := Lib.hid hq; have HES := Lib.hid hES; have HDV := Lib.hid hdv; have HDE := Lib.hid hde; have HRB := Lib.hid hrb; have HLZ := Lib.hid hlz; have HZV := Lib.hid hzv
    clear hLQ hq hES hdv hde hrb hlz hzv
    have hdv' : decV (bl (strL l)) k fl = .agg #[.int .i64 a0, .int .u64 a1, .string a2] := by rw [bl_strL]; exact HDV.out
    have hde' : decE (bl (strL l)) k fl = de := by rw [bl_strL]; exact HDE.out
    have HDV' := Lib.hid hdv'; have HDE' := Lib.hid hde'
    clear hdv' hde'
    have hss : (strL l).size ≤ 9223372036854775807 := by rw [strL_size]; omega
    go_enter Try.func10, Try.ntmps10
    go_upto_region 7 with (first
      | (go_at_call 22; refine (Encode_any _ _ _ _ _ _ x0 x1 _).mono ?_; rintro e w1 ⟨x, rfl, hx, hb⟩; obtain ⟨hc, hf⟩ := bcell hb; obtain ⟨p0, p1⟩ : w.heap.size < w1.heap.size ∧ w.heap.size + 1 < w1.heap.size := (by have hz_ := hb.size; (try simp at hz_); omega); rw [HQ.out]; rw [HLQ.out] at hx; obtain ⟨A1, c1, rfl, -, hr1⟩ := hx; have n_ : Below w.heap.size w _ := below_seq (by repeat (first | exact HB | refine Below.setCell ?_ (by dsimp only; omega) _ | refine Below.alloc ?_ (by have hs_ := HB.size; first | (simp; done) | (simp; omega) | omega) _ | apply Below.drew)) hb; clear HB; have HB := n_; clear n_)
      | (go_at_call 24; refine (rEncode_calls _ _ _ _ _ _ x0 x1 _).mono ?_; rintro e w2 ⟨rfl, hb⟩; obtain ⟨hcw2, hfw2⟩ := bcell hb; obtain ⟨w2z0, w2z1⟩ : w.heap.size < w2.heap.size ∧ w.heap.size + 1 < w2.heap.size := (by have hz_ := hb.size; (try simp at hz_); omega); have hzw2 := hb.size; (try simp at hzw2); rw [HES.out, HQ.out]; replace hr1 := hr1.below hb; have n_ : Below w.heap.size w _ := below_seq (by repeat (first | exact HB | refine Below.setCell ?_ (by dsimp only; omega) _ | refine Below.alloc ?_ (by have hs_ := HB.size; first | (simp; done) | (simp; omega) | omega) _ | apply Below.drew)) hb; clear HB; have HB := n_; clear n_)
      | (go_at_call 23; refine (Decode_calls A c l _ _ _ _ (hA.below HB) (by omega)).mono ?_; rintro e w3 ⟨rfl, hb⟩; obtain ⟨hcw3, hfw3⟩ := bcell hb; obtain ⟨w3z0, w3z1⟩ : w.heap.size < w3.heap.size ∧ w.heap.size + 1 < w3.heap.size := (by have hz_ := hb.size; (try simp at hz_); omega); have hzw3 := hb.size; (try simp at hzw3); rw [HDV.out, HDE.out]; replace hr1 := hr1.below hb; have hcv := fun o => conv_str (hA.below (below_seq (below_seq HB hb) (below_new o))) c; have n_ : Below w.heap.size w _ := below_seq (by repeat (first | exact HB | refine Below.setCell ?_ (by dsimp only; omega) _ | refine Below.alloc ?_ (by have hs_ := HB.size; first | (simp; done) | (simp; omega) | omega) _ | apply Below.drew)) hb; clear HB; have HB := n_; clear n_)
      | (go_at_call 25; refine (rDecode_calls _ _ _ _ hss _).mono ?_; rintro e w4 ⟨rfl, hb⟩; obtain ⟨hcw4, hfw4⟩ := bcell hb; obtain ⟨w4z0, w4z1⟩ : w.heap.size < w4.heap.size ∧ w.heap.size + 1 < w4.heap.size := (by have hz_ := hb.size; (try simp at hz_); omega); have hzw4 := hb.size; (try simp at hzw4); rw [HDV'.out, HDE'.out]; have n_ : Below w.heap.size w _ := below_seq (by repeat (first | exact HB | refine Below.setCell ?_ (by dsimp only; omega) _ | refine Below.alloc ?_ (by have hs_ := HB.size; first | (simp; done) | (simp; omega) | omega) _ | apply Below.drew)) hb; clear HB; have HB := n_; clear n_))
    have HB0 : Below w.heap.size w (w4.alloc (.cells #[.int .i64 a0, .int .u64 a1, .string a2] 24)) := HB.alloc (by have := HB.size; omega) _
    have hlt34 : w3.heap.size < w4.heap.size := by omega
    have b1 : VBox (w4.alloc (.cells #[.int .i64 a0, .int .u64 a1, .string a2] 24)) w.heap.size vk bits tx := ⟨by go_simp, by go_simp, by go_simp⟩
    have b2 : FBox (w4.alloc (.cells #[.int .i64 a0, .int .u64 a1, .string a2] 24)) (w.heap.size + 1) s k fl := ⟨by go_simp, by go_simp, by go_simp⟩
    have b3 : VBox (w4.alloc (.cells #[.int .i64 a0, .int .u64 a1, .string a2] 24)) w3.heap.size a0 a1 a2 := ⟨by go_simp, by go_simp, by go_simp⟩
    have b4 : VBox (w4.alloc (.cells #[.int .i64 a0, .int .u64 a1, .string a2] 24)) w4.heap.size a0 a1 a2 := ⟨by go_simp, by go_simp, by go_simp⟩
    have b5 : RdC (w4.alloc (.cells #[.int .i64 a0, .int .u64 a1, .string a2] 24)) A1 LQ c1 := ⟨(hr1.below ((below_new _).trans (hb.mono (by simp)))).below (below_new _)⟩
    refine RW.start (fun w' => Below w.heap.size w w' ∧ VBox w' w.heap.size vk bits tx ∧ FBox w' (w.heap.size + 1) s k fl ∧ VBox w' w3.heap.size a0 a1 a2 ∧ VBox w' w4.heap.size a0 a1 a2 ∧ RdC w' A1 LQ c1) (by kernel_rfl) (by kernel_rfl) ⟨HB0.drew, b1, b2, b3, b4, b5.below (Below.refl _ _).drew⟩ ?_
    clear b1 b2 b3 b4 b5 HB0 HB hc hf hb hr1 hcv
    repeat (first
      | (refine' RW.val (by rfl) ?_ ?_; rotate_left; (focus (intro w' hS; obtain ⟨HB, ⟨c0, c1, c2⟩, ⟨d0, d1, d2⟩, ⟨e0, e1, e2⟩, ⟨f0, f1, f2⟩, hr⟩ := hS; have hcv := hr.conv; go_simp; rfl)); simp only [Act.put, List.setIfInBounds_toArray, List.set_cons_zero, List.set_cons_succ])
      | (refine RW.off (by rfl) ?_; simp only [Act.put, List.setIfInBounds_toArray, List.set_cons_zero, List.set_cons_succ])
      | (refine' RW.call (by rfl) ?_ ?_ ?_
         rotate_left 3
         (focus (intro w' hS; obtain ⟨HB, ⟨c0, c1, c2⟩, ⟨d0, d1, d2⟩, ⟨e0, e1, e2⟩, ⟨f0, f1, f2⟩, hr⟩ := hS; have hcv := hr.conv; go_simp; exact ⟨rfl, rfl⟩))
         (focus
           intro w' hS
           obtain ⟨HB, ⟨c0, c1, c2⟩, ⟨d0, d1, d2⟩, ⟨e0, e1, e2⟩, ⟨f0, f1, f2⟩, hr⟩ := hS; have hcv := hr.conv
           first
             | (refine (alive_calls _).mono ?_; rintro e w1 ⟨rfl, hb⟩; exact ⟨rfl, ⟨(below_seq HB hb), ⟨(cell_below (B := 0) hb c0), (cell_below (B := 0) hb c1), (cell_below (B := 0) hb c2)⟩, ⟨(cell_below (B := 0) hb d0), (cell_below (B := 0) hb d1), (cell_below (B := 0) hb d2)⟩, ⟨(cell_below (B := 0) hb e0), (cell_below (B := 0) hb e1), (cell_below (B := 0) hb e2)⟩, ⟨(cell_below (B := 0) hb f0), (cell_below (B := 0) hb f1), (cell_below (B := 0) hb f2)⟩, (hr.below hb)⟩⟩)
             | (refine (Right_is _ _ _ _ _ _ x0 x1 _ HRB.out _).mono ?_; rintro e w1 ⟨rfl, hb⟩; exact ⟨rfl, ⟨(below_seq HB hb), ⟨(cell_below (B := 0) hb c0), (cell_below (B := 0) hb c1), (cell_below (B := 0) hb c2)⟩, ⟨(cell_below (B := 0) hb d0), (cell_below (B := 0) hb d1), (cell_below (B := 0) hb d2)⟩, ⟨(cell_below (B := 0) hb e0), (cell_below (B := 0) hb e1), (cell_below (B := 0) hb e2)⟩, ⟨(cell_below (B := 0) hb f0), (cell_below (B := 0) hb f1), (cell_below (B := 0) hb f2)⟩, (hr.below hb)⟩⟩)
             | (refine (rRight_is5 _ _ _ _ _ _ x0 x1 _ HRB.out _).mono ?_; rintro e w1 ⟨rfl, hb⟩; exact ⟨rfl, ⟨(below_seq HB hb), ⟨(cell_below (B := 0) hb c0), (cell_below (B := 0) hb c1), (cell_below (B := 0) hb c2)⟩, ⟨(cell_below (B := 0) hb d0), (cell_below (B := 0) hb d1), (cell_below (B := 0) hb d2)⟩, ⟨(cell_below (B := 0) hb e0), (cell_below (B := 0) hb e1), (cell_below (B := 0) hb e2)⟩, ⟨(cell_below (B := 0) hb f0), (cell_below (B := 0) hb f1), (cell_below (B := 0) hb f2)⟩, (hr.below hb)⟩⟩)
             | (refine (Long_is _ _ _ _ HLZ.out _).mono ?_; rintro e w1 ⟨rfl, hb⟩; exact ⟨rfl, ⟨(below_seq HB hb), ⟨(cell_below (B := 0) hb c0), (cell_below (B := 0) hb c1), (cell_below (B := 0) hb c2)⟩, ⟨(cell_below (B := 0) hb d0), (cell_below (B := 0) hb d1), (cell_below (B := 0) hb d2)⟩, ⟨(cell_below (B := 0) hb e0), (cell_below (B := 0) hb e1), (cell_below (B := 0) hb e2)⟩, ⟨(cell_below (B := 0) hb f0), (cell_below (B := 0) hb f1), (cell_below (B := 0) hb f2)⟩, (hr.below hb)⟩⟩)
             | (refine (rLong_is _ _ _ _ HLZ.out _).mono ?_; rintro e w1 ⟨rfl, hb⟩; exact ⟨rfl, ⟨(below_seq HB hb), ⟨(cell_below (B := 0) hb c0), (cell_below (B := 0) hb c1), (cell_below (B := 0) hb c2)⟩, ⟨(cell_below (B := 0) hb d0), (cell_below (B := 0) hb d1), (cell_below (B := 0) hb d2)⟩, ⟨(cell_below (B := 0) hb e0), (cell_below (B := 0) hb e1), (cell_below (B := 0) hb e2)⟩, ⟨(cell_below (B := 0) hb f0), (cell_below (B := 0) hb f1), (cell_below (B := 0) hb f2)⟩, (hr.below hb)⟩⟩)
             | (refine (Zero_is _ _ _ _ HZV.out _).mono ?_; rintro e w1 ⟨rfl, hb⟩; exact ⟨rfl, ⟨(below_seq HB hb), ⟨(cell_below (B := 0) hb c0), (cell_below (B := 0) hb c1), (cell_below (B := 0) hb c2)⟩, ⟨(cell_below (B := 0) hb d0), (cell_below (B := 0) hb d1), (cell_below (B := 0) hb d2)⟩, ⟨(cell_below (B := 0) hb e0), (cell_below (B := 0) hb e1), (cell_below (B := 0) hb e2)⟩, ⟨(cell_below (B := 0) hb f0), (cell_below (B := 0) hb f1), (cell_below (B := 0) hb f2)⟩, (hr.below hb)⟩⟩)
             | (refine (rZero_is _ _ _ _ HZV.out _).mono ?_; rintro e w1 ⟨rfl, hb⟩; exact ⟨rfl, ⟨(below_seq HB hb), ⟨(cell_below (B := 0) hb c0), (cell_below (B := 0) hb c1), (cell_below (B := 0) hb c2)⟩, ⟨(cell_below (B := 0) hb d0), (cell_below (B := 0) hb d1), (cell_below (B := 0) hb d2)⟩, ⟨(cell_below (B := 0) hb e0), (cell_below (B := 0) hb e1), (cell_below (B := 0) hb e2)⟩, ⟨(cell_below (B := 0) hb f0), (cell_below (B := 0) hb f1), (cell_below (B := 0) hb f2)⟩, (hr.below hb)⟩⟩))
         simp only [Act.put, List.setIfInBounds_toArray, List.set_cons_zero, List.set_cons_succ]))
    refine RW.done (fun w' hS => ?_)
    obtain ⟨HB, ⟨c0, c1, c2⟩, ⟨d0, d1, d2⟩, ⟨e0, e1, e2⟩, ⟨f0, f1, f2⟩, hr⟩ := hS; have hcv := hr.conv
    go_wp2_with fail
    go_ret
    exact ⟨ret_bool (by simp), HB⟩
end Go.Proofs.Ytefbogpobejoeaa
