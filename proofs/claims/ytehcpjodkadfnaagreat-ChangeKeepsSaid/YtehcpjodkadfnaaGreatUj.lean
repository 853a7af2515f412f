/- Merged out of: Gj Gk. -/
import Derived.Test.YtehcpjodkadfnaaGreatUi
import Derived.Deep.RegionWith
import Derived.IntWalk
/- Layer 6 of the heap, fields, tenth part: new objects; where a field stands. -/
set_option linter.unusedSimpArgs false
set_option linter.unusedVariables false
set_option maxRecDepth 100000
namespace Go.Proofs.YtehcpjodkadfnaaGreat
open Go.RowKit

theorem sizeF_le (fs : List Fd) : sizeF fs ≤ 4096 := by
  unfold sizeF
  split
  · rename_i h
    obtain ⟨hm, hl⟩ := rightF_may h
    have := endF_le (nx := 0) hm
    have := upN_le (endF 0 fs) 8 (by omega)
    omega
  · omega
theorem New_calls (A : Option Addr) (c : Nat) (fs : List Fd) (w : World) (hA : Rd w A (cellsF fs)) (hl : fs.length ≤ 9223372036854775807) :
    Calls Tryz.prog 26 #[.slice A fs.length c] w fun e w' => ∃ v, e = .returned v ∧ OutB w' v (List.replicate (sizeF fs) 0) ∧ Below w.heap.size w w' := by
  have hz := sizeF_le fs
  have hmk := make_bytes (sizeF fs) (by omega)
  go_enter Tryz.func26, Tryz.ntmps26
  go_wp2_with (go_at_call 51; refine (Layout_calls A c fs _ hA hl).mono ?_; rintro e w1 ⟨v, rfl, ho, hb1⟩)
  go_ret
  exact ⟨_, rfl, ⟨some ⟨w1.heap.size, 0, none⟩, sizeF fs, by simp, by simp, rd_new _ _ _⟩, hb1.alloc hb1.size _⟩
def Fd.z : Fd := ⟨⟨#[]⟩, 0, 0⟩
theorem Rd.int {w : World} {A : Option Addr} {l : List Nat} (h : Rd w A (intsV l)) {k n : Nat} (hk : l[k]? = some n) : ∃ ad, A = some ad ∧ w.cell? (ad.add k) = some (.int .i64 n) := by
  have : (intsV l)[k]? = some (.int .i64 n) := by simp [intsV, hk]
  exact h.at this
theorem intsV_length (l : List Nat) : (intsV l).length = l.length := by simp [intsV]
theorem Layout_is (A : Option Addr) (c : Nat) (fs : List Fd) (z : Nat) (hz : sizeF fs = z) (w : World) (hA : Rd w A (cellsF fs)) (hl : fs.length ≤ 9223372036854775807) :
    Calls Tryz.prog 51 #[.slice A fs.length c] w fun e w' => ∃ B m c', e = .returned (.tuple #[.slice B m c', .int .i64 (z : Nat)]) ∧ m = (layL fs).length ∧ Rd w' B (intsV (layL fs)) ∧ Below w.heap.size w w' := by
  subst hz
  refine (Layout_calls A c fs w hA hl).mono ?_
  rintro e w' ⟨v, rfl, ho, hb⟩
  obtain ⟨B, c', rfl, _, _, hr⟩ := own_rd ho
  exact ⟨B, _, c', rfl, rfl, hr, hb⟩
/-- a block of cells that was laid -/
def OBox (w : World) (b : Nat) (cs : List Value) (T : TypeId) : Prop := w.heap[b]? = some (.cells cs.toArray T (0, 0))
theorem OBox.new (w : World) (cs : List Value) (T : TypeId) : OBox (w.alloc (.cells cs.toArray T)) w.heap.size cs T := World.alloc_heap_new w _
theorem OBox.lt {w : World} {b : Nat} {cs : List Value} {T : TypeId} (h : OBox w b cs T) : b < w.heap.size := (Array.getElem?_eq_some_iff.1 h).1
theorem OBox.below {w w1 : World} {b : Nat} {cs : List Value} {T : TypeId} (h : OBox w b cs T) (hb : Below w.heap.size w w1) : OBox w1 b cs T := (hb.block b h.lt).trans h
theorem OBox.cell {w : World} {b : Nat} {cs : List Value} {T : TypeId} (h : OBox w b cs T) {j : Nat} {v : Value} (hj : cs[j]? = some v) : w.cell? ⟨b, j, none⟩ = some v := by
  simp [World.cell?, show w.heap[b]? = _ from h, hj]
theorem OBox.frz {w : World} {b : Nat} {cs : List Value} {T : TypeId} (h : OBox w b cs T) (j : Nat) : w.frozen? ⟨b, j, none⟩ = false := by
  simp [World.frozen?, show w.heap[b]? = _ from h]
theorem OBox.f3 {w : World} {b : Nat} {x y z : Value} {T : TypeId} (h : OBox w b [x, y, z] T) : w.cell? ⟨b, 0, none⟩ = some x ∧ w.cell? ⟨b, 1, none⟩ = some y ∧ w.cell? ⟨b, 2, none⟩ = some z ∧ w.frozen? ⟨b, 0, none⟩ = false ∧ w.frozen? ⟨b, 1, none⟩ = false ∧ w.frozen? ⟨b, 2, none⟩ = false :=
  ⟨h.cell rfl, h.cell rfl, h.cell rfl, h.frz 0, h.frz 1, h.frz 2⟩
theorem OBox.f1 {w : World} {b : Nat} {x : Value} {T : TypeId} (h : OBox w b [x] T) : w.cell? ⟨b, 0, none⟩ = some x ∧ w.frozen? ⟨b, 0, none⟩ = false := ⟨h.cell rfl, h.frz 0⟩
set_option maxHeartbeats 1600000 in
theorem place_form (Ab : Option Addr) (nb cb : Nat) (A : Option Addr) (c : Nat) (fs : List Fd) (nm : ByteArray) (w : World) (hA : Rd w A (cellsF fs)) (hl : fs.length ≤ 9223372036854775807) (h : rightF fs = false ∨ ¬ nb = sizeF fs) :
    Calls Tryz.prog 31 #[.slice Ab nb cb, .slice A fs.length c, .string nm] w fun e w' => e = .returned (.tuple #[.int .i64 0, .agg #[.string ⟨#[]⟩, .int .i64 0, .int .i64 0], .int .i64 60]) ∧ Below w.heap.size w w' := by
  obtain ⟨z, hz⟩ : ∃ z, sizeF fs = z := ⟨_, rfl⟩
  obtain ⟨r, hr⟩ : ∃ r, rightF fs = r := ⟨_, rfl⟩
  rw [hz, hr] at h
  have HZ := Lib.hid hz
  have HR := Lib.hid hr
  clear hz hr
  cases r
  · clear h
    go_enter Tryz.func31, Tryz.ntmps31
    go_wp2_with (first
      | (go_at_call 51; refine (Layout_is A c fs z HZ.out _ (hA.below (below_new _)) hl).mono ?_; rintro e w1 ⟨B, m, c', rfl, hm, hr, hb1⟩; have hA1 := (hA.below (below_new _)).below hb1)
      | (go_at_call 21; refine (FRight_is A c fs _ HR.out _ hA1 hl).mono ?_; rintro e w2 ⟨rfl, hb2⟩; obtain ⟨k0, k1, k2, f0, f1, f2⟩ := (((OBox.new w [.string ⟨#[]⟩, .int .i64 0, .int .i64 0] 29).below hb1).below hb2).f3; have HB := below_seq (below_seq (below_new _) hb1) hb2))
    refine bodyPost_ret (v := .tuple #[.int .i64 0, .agg #[.string ⟨#[]⟩, .int .i64 0, .int .i64 0], .int .i64 60]) (by simp [results, Tryz.results31, go_sem, *]; done) rfl ⟨rfl, ?_⟩
    (repeat (first | exact HB | refine Below.setCell ?_ (by dsimp only; omega) _ | refine Below.alloc ?_ (by have hs_ := HB.size; first | (simp; done) | (simp; omega) | omega) _ | apply Below.drew))
  · have hne : ((nb : Int) != (z : Int)) = true := by simp at h; simp; omega
    clear h
    go_enter Tryz.func31, Tryz.ntmps31
    go_wp2_with (first
      | (go_at_call 51; refine (Layout_is A c fs z HZ.out _ (hA.below (below_new _)) hl).mono ?_; rintro e w1 ⟨B, m, c', rfl, hm, hr, hb1⟩; have hA1 := (hA.below (below_new _)).below hb1)
      | (go_at_call 21; refine (FRight_is A c fs _ HR.out _ hA1 hl).mono ?_; rintro e w2 ⟨rfl, hb2⟩; obtain ⟨k0, k1, k2, f0, f1, f2⟩ := (((OBox.new w [.string ⟨#[]⟩, .int .i64 0, .int .i64 0] 29).below hb1).below hb2).f3; have HB := below_seq (below_seq (below_new _) hb1) hb2))
    refine bodyPost_ret (v := .tuple #[.int .i64 0, .agg #[.string ⟨#[]⟩, .int .i64 0, .int .i64 0], .int .i64 60]) (by simp [results, Tryz.results31, go_sem, *]; done) rfl ⟨rfl, ?_⟩
    (repeat (first | exact HB | refine Below.setCell ?_ (by dsimp only; omega) _ | refine Below.alloc ?_ (by have hs_ := HB.size; first | (simp; done) | (simp; omega) | omega) _ | apply Below.drew))
set_option maxHeartbeats 1600000 in
theorem place_none (Ab : Option Addr) (nb cb : Nat) (A : Option Addr) (c : Nat) (fs : List Fd) (nm : ByteArray) (w : World) (hA : Rd w A (cellsF fs)) (hl : fs.length ≤ 9223372036854775807) (h : rightF fs = true) (hn : nb = sizeF fs) (hk : findZ fs nm < 0) :
    Calls Tryz.prog 31 #[.slice Ab nb cb, .slice A fs.length c, .string nm] w fun e w' => e = .returned (.tuple #[.int .i64 0, .agg #[.string ⟨#[]⟩, .int .i64 0, .int .i64 0], .int .i64 61]) ∧ Below w.heap.size w w' := by
  have HZ := Lib.hid hn.symm
  have HR := Lib.hid h
  obtain ⟨k, hkz⟩ : ∃ k, findZ fs nm = k := ⟨_, rfl⟩
  rw [hkz] at hk
  have HK := Lib.hid hkz
  have hd : decide (k < 0) = true := by simpa using hk
  clear h hn hkz
  go_enter Tryz.func31, Tryz.ntmps31
  go_wp2_with (first
    | (go_at_call 51; refine (Layout_is A c fs nb HZ.out _ (hA.below (below_new _)) hl).mono ?_; rintro e w1 ⟨B, m, c', rfl, hm, hr, hb1⟩; have hA1 := (hA.below (below_new _)).below hb1)
    | (go_at_call 21; refine (FRight_is A c fs _ HR.out _ hA1 hl).mono ?_; rintro e w2 ⟨rfl, hb2⟩; have hA2 := hA1.below hb2)
    | (go_at_call 45; refine (Find_is A c fs _ _ HK.out _ hA2 hl).mono ?_; rintro e w3 ⟨rfl, hb3⟩; obtain ⟨k0, k1, k2, f0, f1, f2⟩ := ((((OBox.new w [.string ⟨#[]⟩, .int .i64 0, .int .i64 0] 29).below hb1).below hb2).below hb3).f3; have HB := below_seq (below_seq (below_seq (below_new _) hb1) hb2) hb3))
  refine bodyPost_ret (v := .tuple #[.int .i64 0, .agg #[.string ⟨#[]⟩, .int .i64 0, .int .i64 0], .int .i64 61]) (by simp [results, Tryz.results31, go_sem, *]; done) rfl ⟨rfl, ?_⟩
  (repeat (first | exact HB | refine Below.setCell ?_ (by dsimp only; omega) _ | refine Below.alloc ?_ (by have hs_ := HB.size; first | (simp; done) | (simp; omega) | omega) _ | apply Below.drew))
set_option maxHeartbeats 1600000 in
theorem place_ok (Ab : Option Addr) (nb cb : Nat) (A : Option Addr) (c : Nat) (fs : List Fd) (nm : ByteArray) (w : World) (hA : Rd w A (cellsF fs)) (hl : fs.length ≤ 9223372036854775807) (h : rightF fs = true) (hn : nb = sizeF fs) (k : Nat) (f : Fd) (at_ : Nat) (hk : findZ fs nm = k) (hf : fs[k]? = some f) (hat : (layL fs)[k]? = some at_) :
    Calls Tryz.prog 31 #[.slice Ab nb cb, .slice A fs.length c, .string nm] w fun e w' => e = .returned (.tuple #[.int .i64 at_, .agg #[.string f.s, .int .i64 f.k, .int .i64 f.l], .int .i64 0]) ∧ Below w.heap.size w w' := by
  have HZ := Lib.hid hn.symm
  have HR := Lib.hid h
  have HK := Lib.hid hk
  have HF := Lib.hid hf
  have HT := Lib.hid hat
  have hk1 := (List.getElem?_eq_some_iff.1 hf).1
  have hk2 := (List.getElem?_eq_some_iff.1 hat).1
  clear h hn hk hf hat
  go_enter Tryz.func31, Tryz.ntmps31
  go_wp2_with (first
    | (go_at_call 51; refine (Layout_is A c fs nb HZ.out _ (hA.below (below_new _)) hl).mono ?_; rintro e w1 ⟨B, m, c', rfl, hm, hr, hb1⟩; have hA1 := (hA.below (below_new _)).below hb1)
    | (go_at_call 21; refine (FRight_is A c fs _ HR.out _ hA1 hl).mono ?_; rintro e w2 ⟨rfl, hb2⟩; have hA2 := hA1.below hb2)
    | (go_at_call 45; refine (Find_is A c fs _ _ HK.out _ hA2 hl).mono ?_; rintro e w3 ⟨rfl, hb3⟩; obtain ⟨k0, k1, k2, f0, f1, f2⟩ := ((((OBox.new w [.string ⟨#[]⟩, .int .i64 0, .int .i64 0] 29).below hb1).below hb2).below hb3).f3; have HB := below_seq (below_seq (below_seq (below_new _) hb1) hb2) hb3; obtain ⟨ad, rfl, g0, g1, g2⟩ := (hA2.below hb3).fld HF.out; obtain ⟨bd, rfl, g3⟩ := ((hr.below hb2).below hb3).int HT.out))
  have hlt1 : (k : Int) < ((layL fs).length : Int) := by omega
  have hlt2 : (k : Int) < (fs.length : Int) := by omega
  clear HZ HR HK HF HT
  go_region
  all_goals go_wp2
  all_goals refine bodyPost_ret (v := .tuple #[.int .i64 at_, .agg #[.string f.s, .int .i64 f.k, .int .i64 f.l], .int .i64 0]) (by simp [results, Tryz.results31, go_sem, *]; done) rfl ⟨rfl, ?_⟩
  all_goals (repeat (first | exact HB | refine Below.setCell ?_ (by dsimp only; omega) _ | refine Below.alloc ?_ (by have hs_ := HB.size; first | (simp; done) | (simp; omega) | omega) _ | apply Below.drew))
end Go.Proofs.YtehcpjodkadfnaaGreat
/- Layer 6 of the heap, fields, eleventh part: a field of an object is got. -/
set_option linter.unusedSimpArgs false
set_option linter.unusedVariables false
set_option maxRecDepth 100000
namespace Go.Proofs.YtehcpjodkadfnaaGreat
open Go.RowKit

/-- where the field of a name stands in an object of some bytes, and which it is; or what is amiss -/
def locF (fs : List Fd) (len : Nat) (nm : ByteArray) : Int ⊕ (Nat × Fd) :=
  if rightF fs && decide (len = sizeF fs) then (if findZ fs nm < 0 then .inl 61 else .inr ((layL fs).getD (findZ fs nm).toNat 0, fs.getD (findZ fs nm).toNat Fd.z)) else .inl 60
theorem layL_length {fs : List Fd} (h : rightF fs = true) : (layL fs).length = fs.length := by rw [layL, if_pos h, List.length_map, seqF_length]
theorem loc_bad {fs : List Fd} {len : Nat} {nm : ByteArray} {q : Int} (h : locF fs len nm = .inl q) : (q = 60 ∧ (rightF fs = false ∨ ¬ len = sizeF fs)) ∨ (q = 61 ∧ rightF fs = true ∧ len = sizeF fs ∧ findZ fs nm < 0) := by
  unfold locF at h
  split at h
  · rename_i hr
    simp only [Bool.and_eq_true, decide_eq_true_eq] at hr
    split at h
    · cases h; exact .inr ⟨rfl, hr.1, hr.2, by assumption⟩
    · cases h
  · rename_i hr
    cases h
    refine .inl ⟨rfl, ?_⟩
    cases h2 : rightF fs
    · exact .inl rfl
    · exact .inr fun e => hr (by rw [h2, decide_eq_true e]; rfl)
theorem loc_ok {fs : List Fd} {len : Nat} {nm : ByteArray} {at_ : Nat} {f : Fd} (h : locF fs len nm = .inr (at_, f)) : rightF fs = true ∧ len = sizeF fs ∧ ∃ k : Nat, findZ fs nm = k ∧ fs[k]? = some f ∧ (layL fs)[k]? = some at_ := by
  unfold locF at h
  split at h
  · rename_i hr
    simp only [Bool.and_eq_true, decide_eq_true_eq] at hr
    split at h
    · cases h
    · rename_i hk
      have hb := findZ_ge fs nm
      have h1 : (findZ fs nm).toNat < fs.length := by omega
      have h2 : (findZ fs nm).toNat < (layL fs).length := by rw [layL_length hr.1]; exact h1
      cases h
      refine ⟨hr.1, hr.2, (findZ fs nm).toNat, by omega, ?_, ?_⟩
      · rw [List.getD_eq_getElem?_getD, List.getElem?_eq_getElem h1]; rfl
      · rw [List.getD_eq_getElem?_getD, List.getElem?_eq_getElem h2]; rfl
  · cases h
theorem endF_append (nx : Nat) (a b : List Fd) : endF nx (a ++ b) = endF (endF nx a) b := by
  induction a generalizing nx with
  | nil => rfl
  | cons g r ih => exact ih _
theorem endF_ge {nx : Nat} {fs : List Fd} (h : MayF fs) : nx ≤ endF nx fs := by
  induction fs generalizing nx with
  | nil => simp [endF]
  | cons g r ih =>
    have h1 := atF_le (nx := nx) (h g (List.mem_cons_self ..))
    have h3 := ih (nx := atF nx g + g.n) (fun f hf => h f (List.mem_cons_of_mem _ hf))
    rw [endF]; omega
theorem seqF_get {fs : List Fd} {k : Nat} {f : Fd} (nx : Nat) (hf : fs[k]? = some f) : (seqF nx fs)[k]? = some (atF (endF nx (fs.take k)) f, f) := by
  induction fs generalizing nx k with
  | nil => simp at hf
  | cons g r ih =>
    cases k with
    | zero => simp at hf; subst hf; rfl
    | succ k =>
      have := ih (atF nx g + g.n) (k := k) (by simpa using hf)
      simpa [seqF, endF] using this
theorem lay_end {fs : List Fd} (hm : MayF fs) {k : Nat} {f : Fd} (hf : fs[k]? = some f) : atF (endF 0 (fs.take k)) f + f.n ≤ endF 0 fs := by
  obtain ⟨_, e2⟩ := seqF_take hf
  rw [← e2]
  have e : fs = fs.take (k + 1) ++ fs.drop (k + 1) := (List.take_append_drop _ _).symm
  conv => rhs; rw [e, endF_append]
  exact endF_ge fun g hg => hm g (List.mem_of_mem_drop hg)
theorem loc_in {fs : List Fd} {len : Nat} {nm : ByteArray} {at_ : Nat} {f : Fd} (h : locF fs len nm = .inr (at_, f)) : mayB f.k f.l = true ∧ at_ + f.n ≤ len ∧ len ≤ 4096 ∧ 0 < f.n := by
  obtain ⟨hr, hl, k, hk, hf, hat⟩ := loc_ok h
  obtain ⟨hm, _⟩ := rightF_may hr
  have hmf := hm f (List.mem_of_getElem? hf)
  refine ⟨hmf, ?_, by have := sizeF_le fs; omega, Fd.n_pos hmf⟩
  rw [layL, if_pos hr, List.getElem?_map, seqF_get 0 hf] at hat
  simp at hat
  have h1 := lay_end hm hf
  have h2 := upN_le (endF 0 fs) 8 (by omega)
  rw [hl, sizeF, if_pos hr]
  omega
theorem place_bad (Ab : Option Addr) (nb cb : Nat) (A : Option Addr) (c : Nat) (fs : List Fd) (nm : ByteArray) (q : Int) (h : locF fs nb nm = .inl q) (w : World) (hA : Rd w A (cellsF fs)) (hl : fs.length ≤ 9223372036854775807) :
    Calls Tryz.prog 31 #[.slice Ab nb cb, .slice A fs.length c, .string nm] w fun e w' => e = .returned (.tuple #[.int .i64 0, .agg #[.string ⟨#[]⟩, .int .i64 0, .int .i64 0], .int .i64 q]) ∧ Below w.heap.size w w' := by
  rcases loc_bad h with ⟨rfl, h0⟩ | ⟨rfl, h1, h2, h3⟩
  · exact place_form Ab nb cb A c fs nm w hA hl h0
  · exact place_none Ab nb cb A c fs nm w hA hl h1 h2 h3
theorem place_is (Ab : Option Addr) (nb cb : Nat) (A : Option Addr) (c : Nat) (fs : List Fd) (nm : ByteArray) (at_ : Nat) (f : Fd) (h : locF fs nb nm = .inr (at_, f)) (w : World) (hA : Rd w A (cellsF fs)) (hl : fs.length ≤ 9223372036854775807) :
    Calls Tryz.prog 31 #[.slice Ab nb cb, .slice A fs.length c, .string nm] w fun e w' => e = .returned (.tuple #[.int .i64 at_, .agg #[.string f.s, .int .i64 f.k, .int .i64 f.l], .int .i64 0]) ∧ Below w.heap.size w w' := by
  obtain ⟨hr, hn, k, hk, hf, hat⟩ := loc_ok h
  exact place_ok Ab nb cb A c fs nm w hA hl hr hn k f at_ hk hf hat
/-- a value, as its three parts -/
structure Vl where
  k : Int
  b : Int
  t : ByteArray
def Vl.v (x : Vl) : Value := .agg #[.int .i64 x.k, .int .u64 x.b, .string x.t]
def Vl.z : Vl := ⟨0, 0, ⟨#[]⟩⟩
/-- the value that bytes are -/
def decF (l : List UInt8) (f : Fd) : Vl := if decB l f.k f.l = true then ⟨f.k, decZ l f.k f.l, decT l f.k⟩ else Vl.z
theorem decF_v (l : List UInt8) (f : Fd) : decV l f.k f.l = (decF l f).v := by
  unfold decF
  cases h : decB l f.k f.l
  · rw [(decV_no h).1]; rfl
  · rw [(decV_ok h).1]; rfl
/-- what is got -/
def getV (b : List UInt8) (fs : List Fd) (nm : ByteArray) : Vl := match locF fs b.length nm with
  | .inl _ => Vl.z
  | .inr (at_, f) => decF ((b.drop at_).take f.n) f
def getE (b : List UInt8) (fs : List Fd) (nm : ByteArray) : Int := match locF fs b.length nm with
  | .inl q => q
  | .inr (at_, f) => decE ((b.drop at_).take f.n) f.k f.l
theorem Decode_is (A : Option Addr) (c m : Nat) (l : List UInt8) (s : ByteArray) (k long : Int) (v : Vl) (q : Int) (w : World) (hA : Rd w A (bytesV l)) (hm : l.length = m) (hl : m ≤ 9223372036854775807) (hv : decV l k long = v.v) (hq : decE l k long = q) :
    Calls Tryz.prog 32 #[.slice A m c, .agg #[.string s, .int .i64 k, .int .i64 long]] w fun e w' => e = .returned (.tuple #[.agg #[.int .i64 v.k, .int .u64 v.b, .string v.t], .int .i64 q]) ∧ Below w.heap.size w w' := by
  subst hq hm
  have := Decode_calls A c l s k long w hA hl
  rw [hv] at this
  exact this
/-- a part of what is read -/
theorem Rd.slice {w : World} {ad : Addr} {l : List UInt8} (h : Rd w (some ad) (bytesV l)) (i n : Nat) : Rd w (some (ad.add i)) (bytesV ((l.drop i).take n)) := fun hne => by
  obtain ⟨ad', e, hc⟩ := h (by rintro e; simp [bytesV] at e; subst e; simp [bytesV] at hne)
  cases e
  refine ⟨_, rfl, fun j u hj => ?_⟩
  rw [Addr.add_add]
  apply hc
  simp only [bytesV, List.getElem?_map, List.getElem?_take, List.getElem?_drop] at hj ⊢
  split at hj
  · exact hj
  · simp at hj
theorem Rd.some_of {w : World} {A : Option Addr} {cs : List Value} (h : Rd w A cs) (hne : cs ≠ []) : ∃ ad, A = some ad := by
  obtain ⟨ad, e, _⟩ := h hne; exact ⟨ad, e⟩
set_option maxHeartbeats 4000000 in
theorem Get_bad (Ab : Option Addr) (cb : Nat) (b : List UInt8) (A : Option Addr) (c : Nat) (fs : List Fd) (nm : ByteArray) (q : Int) (h : locF fs b.length nm = .inl q) (w : World) (hA : Rd w A (cellsF fs)) (hl : fs.length ≤ 9223372036854775807) :
    Calls Tryz.prog 13 #[.slice Ab b.length cb, .slice A fs.length c, .string nm] w fun e w' => e = .returned (.tuple #[.agg #[.int .i64 0, .int .u64 0, .string ⟨#[]⟩], .int .i64 q]) ∧ Below w.heap.size w w' := by
  have hq : (q != 0) = true := by rcases loc_bad h with ⟨rfl, _⟩ | ⟨rfl, _⟩ <;> rfl
  have H := Lib.hid h
  clear h
  go_enter Tryz.func13, Tryz.ntmps13
  go_wp2_with (go_at_call 31; refine (place_bad Ab b.length cb A c fs nm q H.out _ (hA.below (below_new _)) hl).mono ?_; rintro e w1 ⟨rfl, hb1⟩; obtain ⟨k0, k1, k2, f0, f1, f2⟩ := ((OBox.new w [.int .i64 0, .int .u64 0, .string ⟨#[]⟩] 33).below hb1).f3; have HB := below_seq (below_new _) hb1; have hz1 : w.heap.size < w1.heap.size := (by have := hb1.size; simp at this; omega))
  refine bodyPost_ret (v := .tuple #[.agg #[.int .i64 0, .int .u64 0, .string ⟨#[]⟩], .int .i64 q]) (by simp [results, Tryz.results13, go_sem, *]; done) rfl ⟨rfl, ?_⟩
  (repeat (first | exact HB | refine Below.setCell ?_ (by dsimp only; omega) _ | refine Below.alloc ?_ (by have hs_ := HB.size; first | (simp; done) | (simp; omega) | omega) _ | apply Below.drew))
set_option maxHeartbeats 4000000 in
theorem Get_ok (Ab : Option Addr) (cb : Nat) (b : List UInt8) (A : Option Addr) (c : Nat) (fs : List Fd) (nm : ByteArray) (at_ : Nat) (f : Fd) (h : locF fs b.length nm = .inr (at_, f)) (w : World) (hA : Rd w A (cellsF fs)) (hl : fs.length ≤ 9223372036854775807) (hb : Rd w Ab (bytesV b)) (hcb : b.length ≤ cb) :
    Calls Tryz.prog 13 #[.slice Ab b.length cb, .slice A fs.length c, .string nm] w fun e w' => e = .returned (.tuple #[(decF ((b.drop at_).take f.n) f).v, .int .i64 (decE ((b.drop at_).take f.n) f.k f.l)]) ∧ Below w.heap.size w w' := by
  obtain ⟨hm, hin, hlen, hn⟩ := loc_in h
  have hn2 := f.n_le
  obtain ⟨bd, rfl⟩ := hb.some_of (by simp [bytesV]; intro e; subst e; simp at hin; omega)
  have hdl : ((b.drop at_).take f.n).length = f.n := by rw [List.length_take, List.length_drop]; omega
  obtain ⟨dv, hdv⟩ : ∃ x, decF ((b.drop at_).take f.n) f = x := ⟨_, rfl⟩
  obtain ⟨de, hde⟩ : ∃ x, decE ((b.drop at_).take f.n) f.k f.l = x := ⟨_, rfl⟩
  rw [hdv, hde]
  have HDV := Lib.hid ((decF_v _ f).trans (congrArg Vl.v hdv))
  have HDE := Lib.hid hde
  have HDL := Lib.hid hdl
  have HN := Lib.hid f.n_eq.symm
  have H := Lib.hid h

  clear h hdv hde hdl
  go_enter Tryz.func13, Tryz.ntmps13
  go_wp2_with (go_at_call 31; refine (place_is (some bd) b.length cb A c fs nm at_ f H.out _ (hA.below (below_new _)) hl).mono ?_; rintro e w1 ⟨rfl, hb1⟩; have O1 := ((OBox.new w [.int .i64 0, .int .u64 0, .string ⟨#[]⟩] 33).below hb1); obtain ⟨k0, k1, k2, f0, f1, f2⟩ := O1.f3; have HB := below_seq (below_new _) hb1; have hz1 : w.heap.size < w1.heap.size := (by have := hb1.size; simp at this; omega))
  have F0 := FBox.new w1 f.s f.k f.l
  have O2 := O1.below (below_new (w := w1) (.cells #[.string f.s, .int .i64 f.k, .int .i64 f.l] 29))
  have hbs := ((hb.slice at_ f.n).below (below_new _)).below hb1 |>.below (below_new (w := w1) (.cells #[.string f.s, .int .i64 f.k, .int .i64 f.l] 29))
  have hcut : (at_ : Int) + (f.n : Int) ≤ (cb : Int) := by omega
  have hcut2 : (at_ : Int) ≤ (at_ : Int) + (f.n : Int) := by omega
  have hcut3 : ((at_ : Int) + (f.n : Int)).toNat = at_ + f.n := by omega
  have hcut4 : ¬ cb = at_ := by omega
  have hlong : f.n ≤ 9223372036854775807 := by omega
  have hcut0 : (0 : Int) ≤ (at_ : Int) + (f.n : Int) := by omega
  have hcut5 : IntKind.i64.wrap ((at_ : Int) + (f.n : Int)) = (at_ : Int) + (f.n : Int) := IntWalk.i64_in _ (by omega)
  obtain ⟨WX, hWX⟩ : ∃ WX, w1.alloc (.cells #[.string f.s, .int .i64 f.k, .int .i64 f.l] 29) = WX := ⟨_, rfl⟩
  have HB := HB.alloc (by omega) (.cells #[.string f.s, .int .i64 f.k, .int .i64 f.l] 29)
  have hzx : w1.heap.size < WX.heap.size := by rw [← hWX]; simp
  rw [hWX] at F0 O2 hbs HB ⊢
  clear hWX k0 k1 k2 f0 f1 f2 O1 hb1 hb hA
  obtain ⟨c0, c1, c2⟩ := F0
  obtain ⟨k0, k1, k2, f0, f1, f2⟩ := O2.f3
  have F1 : FBox WX.drew w1.heap.size f.s f.k f.l := ⟨c0, c1, c2⟩
  have O3 : OBox WX.drew w.heap.size [.int .i64 0, .int .u64 0, .string ⟨#[]⟩] 33 := O2
  have hbs : Rd WX.drew (some (bd.add at_)) (bytesV ((b.drop at_).take f.n)) := hbs
  have HB := HB.drew
  clear H O2
  go_region_with (first
    | (go_at_call 33; refine (Long_is _ _ _ _ HN.out _).mono ?_; rintro e w2 ⟨rfl, hb2⟩; obtain ⟨e0, e1, e2⟩ := F1.below hb2)
    | (go_at_call 32; refine (Decode_is _ _ f.n _ _ _ _ dv de _ (hbs.below hb2) HDL.out hlong HDV.out HDE.out).mono ?_; rintro e w3 ⟨rfl, hb3⟩; obtain ⟨l0, l1, l2, m0, m1, m2⟩ := ((O3.below hb2).below hb3).f3))
  all_goals go_wp2
  all_goals refine bodyPost_ret (v := .tuple #[.agg #[.int .i64 dv.k, .int .u64 dv.b, .string dv.t], .int .i64 de]) (by simp [results, Tryz.results13, go_sem, *]; done) rfl ⟨rfl, ?_⟩
  all_goals have HB := below_seq (below_seq HB hb2) hb3
  all_goals (repeat (first | exact HB | refine Below.setCell ?_ (by dsimp only; omega) _ | refine Below.alloc ?_ (by have hs_ := HB.size; first | (simp; done) | (simp; omega) | omega) _ | apply Below.drew))
theorem Get_calls (Ab : Option Addr) (cb : Nat) (b : List UInt8) (A : Option Addr) (c : Nat) (fs : List Fd) (nm : ByteArray) (w : World) (hA : Rd w A (cellsF fs)) (hl : fs.length ≤ 9223372036854775807) (hb : Rd w Ab (bytesV b)) (hcb : b.length ≤ cb) :
    Calls Tryz.prog 13 #[.slice Ab b.length cb, .slice A fs.length c, .string nm] w fun e w' => e = .returned (.tuple #[(getV b fs nm).v, .int .i64 (getE b fs nm)]) ∧ Below w.heap.size w w' := by
  cases h : locF fs b.length nm with
  | inl q =>
    have e1 : getV b fs nm = Vl.z := by simp [getV, h]
    have e2 : getE b fs nm = q := by simp [getE, h]
    rw [e1, e2]
    exact Get_bad Ab cb b A c fs nm q h w hA hl
  | inr x =>
    obtain ⟨at_, f⟩ := x
    have e1 : getV b fs nm = decF ((b.drop at_).take f.n) f := by simp [getV, h]
    have e2 : getE b fs nm = decE ((b.drop at_).take f.n) f.k f.l := by simp [getE, h]
    rw [e1, e2]
    exact Get_ok Ab cb b A c fs nm at_ f h w hA hl hb hcb
end Go.Proofs.YtehcpjodkadfnaaGreat
