/- Layer 5 of the heap, kinds, seventh part: bytes that are cast; every cast. -/
import Derived.Test.YtefbogpobejoeaaKi
set_option linter.unusedSimpArgs false
set_option linter.unusedVariables false
namespace Go.Proofs.Ytefbogpobejoeaa
open Go.RowKit

theorem casts_12 {k l l2 : Int} (h : castsB k l 12 l2 = true) : k = 12 ∧ mayB 12 l2 = true := by
  unfold castsB at h
  split at h
  · cases h
  · rename_i hz
    have hm : mayB 12 l2 = true := by
      by_cases hm : mayB 12 l2 = true
      · exact hm
      · exfalso; apply hz; right; simp [longZ, hm]
    refine ⟨?_, hm⟩
    simpa [btw] using h

set_option maxHeartbeats 800000 in
theorem Cast_bytes (vk bits : Int) (tx s s2 : ByteArray) (k l : Int) (n : Nat) (h0 : 0 ≤ bits) (h1 : bits < 18446744073709551616) (hr : rightB vk bits tx k l = true) (hc : castsB k l 12 n = true) (w : World) :
    Calls Try.prog 12 #[.agg #[.int .i64 vk, .int .u64 bits, .string tx], .agg #[.string s, .int .i64 k, .int .i64 l], .agg #[.string s2, .int .i64 12, .int .i64 n]] w fun e w' => e = .returned (.tuple #[.agg #[.int .i64 12, .int .u64 bits, .string (strL (padL (bl tx) n))], .int .i64 0]) ∧ Below w.heap.size w w' := by
  have HB : Below w.heap.size w (((w.alloc (.cells #[.int .i64 vk, .int .u64 bits, .string tx] 24)).alloc (.cells #[.string s, .int .i64 k, .int .i64 l] 26)).alloc (.cells #[.string s2, .int .i64 12, .int .i64 n] 26)) := ((below_new _).alloc (by simp) _).alloc (by simp; omega) _
  have hn : n ≤ 64 := by have := btw_iff.1 (mayB_12 ▸ (casts_12 hc).2); omega
  have HR := Lib.hid hr
  have HC := Lib.hid hc
  clear hr hc
  have hmk := make_bytes n (by omega)
  have hcy : ∀ (W : World) (o : Obj), (Builtin.copy_ #[43, 9] 3 #[.slice (some ⟨W.heap.size + 1, 0, none⟩) n n, .string tx]).run Try.prog ((W.alloc o).alloc (.cells (bytesV (List.replicate n 0)).toArray 5)) =
      .ok (goInt (min tx.size n)) ((W.alloc o).alloc (.cells (bytesV (padL (bl tx) n)).toArray 5)) := fun W o => by simpa using copy_new 3 tx n (W.alloc o)
  have hcv : ∀ (W : World) (o : Obj), (convert 43 9 (.slice (some ⟨W.heap.size + 1, 0, none⟩) n n)).run Try.prog ((W.alloc o).alloc (.cells (bytesV (padL (bl tx) n)).toArray 5)) = .ok (.string (strL (padL (bl tx) n))) ((W.alloc o).alloc (.cells (bytesV (padL (bl tx) n)).toArray 5)) := fun W o => by
    have := conv_str (rd_new (W.alloc o) (bytesV (padL (bl tx) n)) 5) n
    simpa [padL_length] using this
  go_enter Try.func12, Try.ntmps12
  go_wp2_with (first
    | (go_at_call 16; refine (Right_is _ _ _ _ _ _ h0 h1 _ HR.out _).mono ?_; rintro e w1 ⟨rfl, hb⟩; obtain ⟨hc, hf⟩ := bcell hb; obtain ⟨z0, z1, z2, z3⟩ : w.heap.size < w1.heap.size ∧ w.heap.size + 1 < w1.heap.size ∧ w.heap.size + 1 + 1 < w1.heap.size ∧ w.heap.size + 1 + 1 + 1 < w1.heap.size := (by have hz_ := hb.size; (try simp at hz_); omega); have n_ : Below w.heap.size w _ := below_seq (by repeat (first | exact HB | refine Below.setCell ?_ (by dsimp only; omega) _ | refine Below.alloc ?_ (by have hs_ := HB.size; simp; omega) _ | apply Below.drew)) hb; clear HB; have HB := n_; clear n_)
    | (go_at_call 14; refine (Casts_is _ _ _ _ _ _ _ HC.out _).mono ?_; rintro e w2 ⟨rfl, hb⟩; obtain ⟨hc, hf⟩ := bcell hb; obtain ⟨z0, z1, z2, z3⟩ : w.heap.size < w2.heap.size ∧ w.heap.size + 1 < w2.heap.size ∧ w.heap.size + 1 + 1 < w2.heap.size ∧ w.heap.size + 1 + 1 + 1 < w2.heap.size := (by have hz_ := hb.size; (try simp at hz_); omega); have n_ : Below w.heap.size w _ := below_seq (by repeat (first | exact HB | refine Below.setCell ?_ (by dsimp only; omega) _ | refine Below.alloc ?_ (by have hs_ := HB.size; simp; omega) _ | apply Below.drew)) hb; clear HB; have HB := n_; clear n_))
  refine bodyPost_ret (v := .tuple #[.agg #[.int .i64 12, .int .u64 bits, .string (strL (padL (bl tx) n))], .int .i64 0]) (by simp [results, Try.results12, go_sem, *]) rfl ⟨rfl, ?_⟩
  (repeat (first | exact HB | refine Below.setCell ?_ (by dsimp only; omega) _ | refine Below.alloc ?_ (by have hs_ := HB.size; simp; omega) _ | apply Below.drew))

def castT (tx : ByteArray) (k2 l2 : Int) : ByteArray := if k2 = 12 then strL (padL (bl tx) l2.toNat) else ⟨#[]⟩
def castV (vk bits : Int) (tx : ByteArray) (k l k2 l2 : Int) : Value := if rightB vk bits tx k l = true ∧ castsB k l k2 l2 = true then .agg #[.int .i64 k2, .int .u64 (castZ bits k k2), .string (castT tx k2 l2)] else .agg #[.int .i64 0, .int .u64 0, .string ⟨#[]⟩]
def castE (vk bits : Int) (tx : ByteArray) (k l k2 l2 : Int) : Int := if rightB vk bits tx k l = true then (if castsB k l k2 l2 = true then 0 else 51) else 50

theorem Cast_calls (vk bits : Int) (tx s s2 : ByteArray) (k l k2 l2 : Int) (h0 : 0 ≤ bits) (h1 : bits < 18446744073709551616) (w : World) :
    Calls Try.prog 12 #[.agg #[.int .i64 vk, .int .u64 bits, .string tx], .agg #[.string s, .int .i64 k, .int .i64 l], .agg #[.string s2, .int .i64 k2, .int .i64 l2]] w fun e w' => e = .returned (.tuple #[castV vk bits tx k l k2 l2, .int .i64 (castE vk bits tx k l k2 l2)]) ∧ Below w.heap.size w w' := by
  by_cases hr : rightB vk bits tx k l = true
  · by_cases hc : castsB k l k2 l2 = true
    · rw [castV, if_pos ⟨hr, hc⟩, castE, if_pos hr, if_pos hc]
      by_cases hk : k2 = 12
      · subst hk
        have h12 := casts_12 hc
        have hb := btw_iff.1 (mayB_12 ▸ h12.2)
        obtain ⟨n, rfl⟩ : ∃ n : Nat, l2 = n := ⟨l2.toNat, by omega⟩
        have e1 : castZ bits k 12 = bits := by simp [castZ]
        rw [castT, if_pos rfl, e1]
        exact Cast_bytes vk bits tx s s2 k l n h0 h1 hr hc w
      · rw [castT, if_neg hk]
        by_cases c1 : k2 = 10 ∧ btw 1 k 4 = true
        · obtain ⟨rfl, hp⟩ := c1
          exact Cast_plain vk bits tx s s2 k l l2 h0 h1 hr hc hp w
        · by_cases c2 : k2 = 10 ∧ btw 5 k 8 = true
          · obtain ⟨rfl, hp⟩ := c2
            exact Cast_signed vk bits tx s s2 k l l2 h0 h1 hr hc hp w
          · by_cases c3 : k2 = 8 ∧ k = 10
            · obtain ⟨rfl, rfl⟩ := c3
              exact Cast_whole vk bits tx s s2 l l2 h0 h1 hr hc w
            · rw [castZ, if_neg c1, if_neg c2, if_neg c3]
              exact Cast_same vk bits tx s s2 k l k2 l2 h0 h1 hr hc hk (fun e => ⟨by rw [← Bool.not_eq_true]; exact fun h => c1 ⟨e, h⟩, by rw [← Bool.not_eq_true]; exact fun h => c2 ⟨e, h⟩⟩) (fun e h => c3 ⟨e, h⟩) w
    · rw [castV, if_neg (fun h => hc h.2), castE, if_pos hr, if_neg hc]
      exact Cast_not vk bits tx s s2 k l k2 l2 h0 h1 hr (by simpa using hc) w
  · rw [castV, if_neg (fun h => hr h.1), castE, if_neg hr]
    exact Cast_wrong vk bits tx s s2 k l k2 l2 h0 h1 (by simpa using hr) w
end Go.Proofs.Ytefbogpobejoeaa
