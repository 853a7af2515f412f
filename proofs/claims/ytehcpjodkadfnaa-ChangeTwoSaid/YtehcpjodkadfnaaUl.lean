/- Merged out of: Kt Ma. -/
import Derived.Test.YtehcpjodkadfnaaUk
import Derived.Deep.DeepCutAuto
import Derived.Test.YtehcpjodkadfnaaUi
/- Layer 5's reference, eighth part: bytes that are cast; every cast. -/
set_option linter.unusedSimpArgs false
set_option linter.unusedVariables false
set_option maxRecDepth 100000
namespace Go.Proofs.Ytehcpjodkadfnaa
open Go.RowKit
theorem rZero_v (s : ByteArray) (k l : Int) (v : Value) (h : zeroV k l = v) (w : World) : Calls Try.prog 75 #[.agg #[.string s, .int .i64 k, .int .i64 l]] w fun e w' => e = .returned v ∧ Below w.heap.size w w' := h ▸ rZero_calls s k l w

/-- what the out value holds, and that it can be written, while 'Zero' is called -/
structure CS (w0 w : World) (q : Nat) (bits : Int) (tx s s2 : ByteArray) (l n : Int) : Prop where
  v : VBox w w0.heap.size 12 bits tx
  t : FBox w (w0.heap.size + 1 + 1) s2 12 n
  r : VBox w (w0.heap.size + 1 + 1 + 1) 0 0 ⟨#[]⟩
  o : VBox w q 12 bits ⟨#[]⟩
  fr : ∀ i, w.frozen? ⟨w0.heap.size + 1 + 1 + 1, i, none⟩ = false
  fo : ∀ i, w.frozen? ⟨q, i, none⟩ = false
  hq : q < w.heap.size
theorem CS.below {w0 w w1 : World} {q : Nat} {bits : Int} {tx s s2 : ByteArray} {l n : Int} (h : CS w0 w q bits tx s s2 l n) (hb : Below w.heap.size w w1) : CS w0 w1 q bits tx s s2 l n := by
  have hr := World.block_lt_of_cell? w _ h.r.1
  exact ⟨h.v.below hb, h.t.below hb, h.r.below hb, h.o.below hb, fun i => ((bcell hb).2 _ i hr).trans (h.fr i), fun i => ((bcell hb).2 _ i h.hq).trans (h.fo i), by have := hb.size; have := h.hq; omega⟩
theorem pad_is (tx : ByteArray) (n : Nat) : (tx ++ strL (List.replicate n 0)).extract 0 n = strL (padL (bl tx) n) := by
  have e : tx = strL (bl tx) := (strL_bl tx).symm
  rw [e, strL_append, strL_extract, bl_strL]
  congr 1
  unfold padL
  rw [List.take_append, List.take_replicate]
  congr 2
  omega
set_option maxHeartbeats 1600000 in
theorem rCast_12 (vk bits : Int) (tx s s2 : ByteArray) (k l : Int) (n : Nat) (h0 : 0 ≤ bits) (h1 : bits < 18446744073709551616) (hr : rightB vk bits tx k l = true) (hc : castsB k l 12 n = true) (w : World) :
    Calls Try.prog 63 #[.agg #[.int .i64 vk, .int .u64 bits, .string tx], .agg #[.string s, .int .i64 k, .int .i64 l], .agg #[.string s2, .int .i64 12, .int .i64 n]] w fun e w' => e = .returned (.tuple #[.agg #[.int .i64 12, .int .u64 bits, .string (strL (padL (bl tx) n))], .int .i64 0]) ∧ Below w.heap.size w w' := by
  have hm2 := (casts_12 hc).2
  have hn : n ≤ 64 ∧ 1 ≤ n := by have := btw_iff.1 (mayB_12 ▸ hm2); omega
  obtain ⟨hm, hvk, hsz, -⟩ := right_may hr
  obtain rfl := (casts_12 hc).1
  subst hvk
  have htl : tx.size ≤ 64 := by
    have := btw_iff.1 (mayB_12 ▸ hm)
    rw [if_pos rfl] at hsz; omega
  have k2 : (12 : Int) = 12 := rfl
  have HB : Below w.heap.size w ((((w.alloc (.cells #[.int .i64 12, .int .u64 bits, .string tx] 27)).alloc (.cells #[.string s, .int .i64 12, .int .i64 l] 24)).alloc (.cells #[.string s2, .int .i64 12, .int .i64 n] 24)).alloc (.cells #[.int .i64 0, .int .u64 0, .string ⟨#[]⟩] 27)) := (((below_new _).alloc (by simp) _).alloc (by simp; omega) _).alloc (by simp; omega) _
  have hss := setCell_twice
  have hz : zeroV 12 n = .agg #[.int .i64 12, .int .u64 0, .string (strL (List.replicate n 0))] := by rw [zeroV, if_pos hm2, zeroL, if_pos rfl]; simp
  have HZ := Lib.hid hz
  have HR := Lib.hid hr
  have HC := Lib.hid hc
  have hpad := pad_is tx n
  have hsz2 : (tx ++ strL (List.replicate n 0)).size = tx.size + n := by rw [ByteArray.size_append, strL_size, List.length_replicate]
  have hzs : (strL (List.replicate n 0)).size = n := by rw [strL_size, List.length_replicate]
  generalize strL (padL (bl tx) n) = out at *
  generalize strL (List.replicate n 0) = zs at *
  have hov : ¬ 9223372036854775807 < tx.size + zs.size := by omega
  have hov2 : ¬ 9223372036854775807 < tx.size + n := by omega
  have i2 : ((n : Int) ≤ ((tx.size + n : Nat) : Int)) := by omega
  have i3 : ((n : Int) ≤ (tx.size : Int) + n) := by omega
  obtain ⟨n64, n1⟩ := hn
  have hap : (tx ++ zs).size = tx.size + zs.size := by rw [hzs]; exact hsz2
  have i1 : ((n : Int) ≤ ((tx ++ zs).size : Int)) := by rw [hsz2]; omega
  clear hr hc hz hm hm2 hsz
  go_enter Try.func63, Try.ntmps63
  go_upto_region 7 with (first
    | (go_at_call 32; refine (rRight_is5 _ _ _ _ _ _ h0 h1 _ HR.out _).mono ?_; rintro e w1 ⟨rfl, hb⟩; obtain ⟨hc, hf⟩ := bcell hb; obtain ⟨z0, z1, z2, z3⟩ : w.heap.size < w1.heap.size ∧ w.heap.size + 1 < w1.heap.size ∧ w.heap.size + 1 + 1 < w1.heap.size ∧ w.heap.size + 1 + 1 + 1 < w1.heap.size := (by have hz_ := hb.size; (try simp at hz_); omega); have n_ : Below w.heap.size w _ := below_seq (by repeat (first | exact HB | refine Below.setCell ?_ (by dsimp only; omega) _ | refine Below.alloc ?_ (by have hs_ := HB.size; first | (simp; done) | (simp; omega) | omega) _ | apply Below.drew)) hb; clear HB; have HB := n_; clear n_)
    | (go_at_call 31; refine (rCasts_is _ _ _ _ _ _ _ HC.out _).mono ?_; rintro e w2 ⟨rfl, hb⟩; obtain ⟨hc, hf⟩ := bcell hb; obtain ⟨z0, z1, z2, z3⟩ : w.heap.size < w2.heap.size ∧ w.heap.size + 1 < w2.heap.size ∧ w.heap.size + 1 + 1 < w2.heap.size ∧ w.heap.size + 1 + 1 + 1 < w2.heap.size := (by have hz_ := hb.size; (try simp at hz_); omega); have n_ : Below w.heap.size w _ := below_seq (by repeat (first | exact HB | refine Below.setCell ?_ (by dsimp only; omega) _ | refine Below.alloc ?_ (by have hs_ := HB.size; first | (simp; done) | (simp; omega) | omega) _ | apply Below.drew)) hb; clear HB; have HB := n_; clear n_))
  have g1 : CS w (w2.alloc (.cells #[.int .i64 12, .int .u64 bits, .string ⟨#[]⟩] 27)) w2.heap.size bits tx s s2 l n :=
    ⟨⟨by go_simp, by go_simp, by go_simp⟩, ⟨by go_simp, by go_simp, by go_simp⟩, ⟨by go_simp, by go_simp, by go_simp⟩, ⟨by go_simp, by go_simp, by go_simp⟩, fun i => by go_simp, fun i => by go_simp, by simp⟩
  have hB0 : Below w.heap.size w (w2.alloc (.cells #[.int .i64 12, .int .u64 bits, .string ⟨#[]⟩] 27)) := HB.alloc (by have := HB.size; omega) _
  have hqn : w.heap.size + 1 + 1 + 1 < w2.heap.size := by omega
  generalize w2.heap.size = q at *
  refine RW.start (fun w' => Below w.heap.size w w' ∧ CS w w' q bits tx s s2 l n) (by kernel_rfl) (by kernel_rfl) ⟨hB0.drew, g1.below (Below.refl _ _).drew⟩ ?_
  clear g1 hB0 HB hc hf hb
  repeat (first
    | (refine' RW.val (by rfl) ?_ ?_; rotate_left; (focus (intro w' hS; obtain ⟨HB, hs⟩ := hS; obtain ⟨⟨c0, c1, c2⟩, ⟨d0, d1, d2⟩, ⟨e0, e1, e2⟩, ⟨f0, f1, f2⟩, fr, fo, hq⟩ := id hs; go_simp; rfl)); simp only [Act.put, List.setIfInBounds_toArray, List.set_cons_zero, List.set_cons_succ])
    | (refine RW.off (by rfl) ?_; simp only [Act.put, List.setIfInBounds_toArray, List.set_cons_zero, List.set_cons_succ])
    | (refine' RW.call (by rfl) ?_ ?_ ?_
       rotate_left 3
       (focus (intro w' hS; obtain ⟨HB, hs⟩ := hS; obtain ⟨⟨c0, c1, c2⟩, ⟨d0, d1, d2⟩, ⟨e0, e1, e2⟩, ⟨f0, f1, f2⟩, fr, fo, hq⟩ := id hs; go_simp; exact ⟨rfl, rfl⟩))
       (focus
         intro w' hS
         obtain ⟨HB, hs⟩ := hS; obtain ⟨⟨c0, c1, c2⟩, ⟨d0, d1, d2⟩, ⟨e0, e1, e2⟩, ⟨f0, f1, f2⟩, fr, fo, hq⟩ := id hs
         first
           | (refine (rZero_v _ _ _ _ HZ.out _).mono ?_; rintro e w1 ⟨rfl, hb⟩; exact ⟨rfl, ⟨(below_seq HB hb), (hs.below hb)⟩⟩))
       simp only [Act.put, List.setIfInBounds_toArray, List.set_cons_zero, List.set_cons_succ]))
  refine RW.done (fun w' hS => ?_)
  obtain ⟨HB, hs⟩ := hS; obtain ⟨⟨c0, c1, c2⟩, ⟨d0, d1, d2⟩, ⟨e0, e1, e2⟩, ⟨f0, f1, f2⟩, fr, fo, hq⟩ := id hs
  go_wp2_with fail
  refine bodyPost_ret (v := .tuple #[.agg #[.int .i64 12, .int .u64 bits, .string out], .int .i64 0]) (by simp [results, Try.results63, go_sem, *]) rfl ⟨rfl, ?_⟩
  (repeat (first | exact HB | refine Below.setCell ?_ (by dsimp only; omega) _ | refine Below.alloc ?_ (by have hs_ := HB.size; first | (simp; done) | (simp; omega) | omega) _ | apply Below.drew))
/-- every cast -/
theorem rCast_calls (vk bits : Int) (tx s s2 : ByteArray) (k l k2 l2 : Int) (h0 : 0 ≤ bits) (h1 : bits < 18446744073709551616) (w : World) :
    Calls Try.prog 63 #[.agg #[.int .i64 vk, .int .u64 bits, .string tx], .agg #[.string s, .int .i64 k, .int .i64 l], .agg #[.string s2, .int .i64 k2, .int .i64 l2]] w fun e w' => e = .returned (.tuple #[castV vk bits tx k l k2 l2, .int .i64 (castE vk bits tx k l k2 l2)]) ∧ Below w.heap.size w w' := by
  by_cases hr : rightB vk bits tx k l = true
  · by_cases hc : castsB k l k2 l2 = true
    · rw [castV, if_pos ⟨hr, hc⟩, castE, if_pos hr, if_pos hc]
      by_cases hk : k2 = 12
      · subst hk
        obtain ⟨rfl, hm2⟩ := casts_12 hc
        have hb := btw_iff.1 (mayB_12 ▸ hm2)
        obtain ⟨n, rfl⟩ : ∃ n : Nat, l2 = n := ⟨l2.toNat, by omega⟩
        have e : castZ bits 12 12 = bits := by simp [castZ]
        rw [e, castT, if_pos rfl, Int.toNat_natCast]
        exact rCast_12 vk bits tx s s2 12 l n h0 h1 hr hc w
      · rw [castT, if_neg hk]
        have a12 : (k2 == 12) = false := by simpa using hk
        have hk1 := (may_kind (right_may hr).1).1
        by_cases c10 : k2 = 10
        · have a10 : (k2 == 10) = true := by simpa using c10
          by_cases c4 : k ≤ 4
          · exact rCast_a vk bits tx s s2 k l k2 l2 h0 h1 hr hc a12 a10 (decide_eq_true c4) hk1 w
          · have b4 : decide (k ≤ 4) = false := decide_eq_false c4
            by_cases c8 : k ≤ 8
            · by_cases cs : 9223372036854775808 ≤ bits
              · exact rCast_c vk bits tx s s2 k l k2 l2 h0 h1 hr hc a12 a10 b4 (decide_eq_true c8) (decide_eq_true cs) w
              · exact rCast_b vk bits tx s s2 k l k2 l2 h0 h1 hr hc a12 a10 b4 (decide_eq_true c8) (decide_eq_false cs) w
            · exact rCast_d vk bits tx s s2 k l k2 l2 h0 h1 hr hc a12 a10 b4 (decide_eq_false c8) w
        · have a10 : (k2 == 10) = false := by simpa using c10
          by_cases c8 : k2 = 8
          · have a8 : (k2 == 8) = true := by simpa using c8
            by_cases d10 : k = 10
            · exact rCast_e vk bits tx s s2 k l k2 l2 h0 h1 hr hc a12 a10 a8 (by simpa using d10) w
            · exact rCast_f vk bits tx s s2 k l k2 l2 h0 h1 hr hc a12 a10 a8 (by simpa using d10) w
          · exact rCast_g vk bits tx s s2 k l k2 l2 h0 h1 hr hc a12 a10 (by simpa using c8) w
    · have hc' : castsB k l k2 l2 = false := by simpa using hc
      rw [castV, if_neg (fun h => hc h.2), castE, if_pos hr, if_neg hc]
      exact rCast_not vk bits tx s s2 k l k2 l2 h0 h1 hr hc' w
  · have hr' : rightB vk bits tx k l = false := by simpa using hr
    rw [castV, if_neg (fun h => hr h.1), castE, if_neg hr]
    exact rCast_wrong vk bits tx s s2 k l k2 l2 h0 h1 hr' w
end Go.Proofs.Ytehcpjodkadfnaa
/- Layers 7 and 8 of the heap, tables, first part: rows of moves; what a right table is. -/
set_option linter.unusedSimpArgs false
set_option linter.unusedVariables false
set_option maxRecDepth 100000
namespace Go.Proofs.Ytehcpjodkadfnaa
open Go.RowKit

/-- where a field comes from -/
structure Mv where
  f : Int
  d : Vl
/-- a table -/
structure Tb where
  o : List Fd
  n : List Fd
  m : List Mv
instance : DecidableEq Vl := fun a b => decidable_of_iff (a.k = b.k ∧ a.b = b.b ∧ a.t = b.t) (by cases a; cases b; simp)
instance : DecidableEq Mv := fun a b => decidable_of_iff (a.f = b.f ∧ a.d = b.d) (by cases a; cases b; simp)
/-- moves, as memory holds them -/
def cellsM (ms : List Mv) : List Value := ms.flatMap fun m => [.int .i64 m.f, .int .i64 m.d.k, .int .u64 m.d.b, .string m.d.t]
theorem cellsM_length (ms : List Mv) : (cellsM ms).length = 4 * ms.length := by
  induction ms with
  | nil => rfl
  | cons v r ih => simp only [cellsM, List.flatMap_cons, List.length_append, List.length_cons, List.length_nil] at *; omega
theorem cellsM_append (a b : List Mv) : cellsM (a ++ b) = cellsM a ++ cellsM b := by simp [cellsM]
theorem cellsM_get {ms : List Mv} {i : Nat} {m : Mv} (h : ms[i]? = some m) : (cellsM ms)[i * 4]? = some (.int .i64 m.f) ∧ (cellsM ms)[i * 4 + 1]? = some (.int .i64 m.d.k) ∧ (cellsM ms)[i * 4 + 2]? = some (.int .u64 m.d.b) ∧ (cellsM ms)[i * 4 + 3]? = some (.string m.d.t) := by
  induction ms generalizing i with
  | nil => simp at h
  | cons g r ih =>
    cases i with
    | zero => simp at h; subst h; exact ⟨rfl, rfl, rfl, rfl⟩
    | succ i =>
      have := ih (i := i) (by simpa using h)
      rw [cellsM, List.flatMap_cons]
      refine ⟨?_, ?_, ?_, ?_⟩
      · rw [show (i + 1) * 4 = i * 4 + 4 by omega, List.getElem?_append_right (by simp)]; simpa [cellsM] using this.1
      · rw [show (i + 1) * 4 + 1 = i * 4 + 1 + 4 by omega, List.getElem?_append_right (by simp)]; simpa [cellsM] using this.2.1
      · rw [show (i + 1) * 4 + 2 = i * 4 + 2 + 4 by omega, List.getElem?_append_right (by simp)]; simpa [cellsM] using this.2.2.1
      · rw [show (i + 1) * 4 + 3 = i * 4 + 3 + 4 by omega, List.getElem?_append_right (by simp)]; simpa [cellsM] using this.2.2.2
theorem Rd.mv {w : World} {A : Option Addr} {ms : List Mv} (h : Rd w A (cellsM ms)) {k : Nat} {m : Mv} (hm : ms[k]? = some m) : ∃ ad, A = some ad ∧ w.cell? (ad.add (k * 4)) = some (.int .i64 m.f) ∧ w.cell? ⟨(ad.add (k * 4)).block, (ad.add (k * 4)).off + (0 + 1), none⟩ = some (.int .i64 m.d.k) ∧
    w.cell? ⟨(ad.add (k * 4)).block, (ad.add (k * 4)).off + (1 + 1), none⟩ = some (.int .u64 m.d.b) ∧ w.cell? ⟨(ad.add (k * 4)).block, (ad.add (k * 4)).off + (2 + 1), none⟩ = some (.string m.d.t) := by
  obtain ⟨g0, g1, g2, g3⟩ := cellsM_get hm
  obtain ⟨ad, rfl, h0⟩ := h.at g0
  obtain ⟨_, e1, h1⟩ := h.at g1
  obtain ⟨_, e2, h2⟩ := h.at g2
  obtain ⟨_, e3, h3⟩ := h.at g3
  cases e1; cases e2; cases e3
  rw [add_part _ _ 0] at h1
  rw [add_part _ _ 1] at h2
  rw [add_part _ _ 2] at h3
  exact ⟨ad, rfl, h0, h1, h2, h3⟩
/-- may a move be, of a table's fields? -/
def okMv (o : List Fd) (g : Fd) (m : Mv) : Bool :=
  if m.f = -1 then rightB m.d.k m.d.b m.d.t g.k g.l && (decide (g.k ≠ 11) || decide (m.d.b = 0))
  else decide (0 ≤ m.f) && (match o[m.f.toNat]? with | none => false | some f => decide (m.d = Vl.z) && castsB f.k f.l g.k g.l)
def okAt (t : Tb) (k : Nat) : Bool := match t.m[k]?, t.n[k]? with | some m, some g => okMv t.o g m | _, _ => false
/-- may a table be? -/
def rightT (t : Tb) : Bool := rightF t.o && rightF t.n && decide (t.m.length = t.n.length) && decide (∀ k, k < t.m.length → okAt t k = true)
/-- are two tables alike? -/
def sameT (a b : Tb) : Bool := decide (a.o = b.o) && decide (a.n = b.n) && decide (a.m = b.m)
/-- the table that changes nothing -/
def keepT (l : List Fd) : Tb := if rightF l = true then ⟨l, l, (List.range l.length).map fun k : Nat => ⟨(k : Int), Vl.z⟩⟩ else ⟨[], [], []⟩
/-- the numbers of moves are words -/
def MvW (ms : List Mv) : Prop := ∀ m ∈ ms, 0 ≤ m.d.b ∧ m.d.b < 18446744073709551616
/-- a table, as a value, and what it points to -/
def TV (w : World) (v : Value) (t : Tb) : Prop := ∃ A c B d C e, v = .agg #[.slice A t.o.length c, .slice B t.n.length d, .slice C t.m.length e] ∧ Rd w A (cellsF t.o) ∧ Rd w B (cellsF t.n) ∧ Rd w C (cellsM t.m)
theorem TV.below {w w1 : World} {v : Value} {t : Tb} (h : TV w v t) (hb : Below w.heap.size w w1) : TV w1 v t := by
  obtain ⟨A, c, B, d, C, e, hv, h0, h1, h2⟩ := h
  exact ⟨A, c, B, d, C, e, hv, h0.below hb, h1.below hb, h2.below hb⟩
end Go.Proofs.Ytehcpjodkadfnaa
