/- Merged out of: Gk Gl Gm Go Gt Gv Gw Ha Kn Kt Ma Mb. -/
import Derived.Test.YteembinfgbapgaaGreatM06
import Derived.Deep.RegionWith
import Derived.IntWalk
import Derived.WalkSpells
import Derived.Laws.CopyOwn
import Derived.Deep.RegionHeld3
import Derived.Deep.AppendLies
import Derived.Lib.AppendStr
import Derived.Test.YteembinfgbapgaaGreatM05
import Derived.Deep.DeepCutAuto
/- Layer 6 of the heap, fields, eleventh part: a field of an object is got. -/
set_option linter.unusedSimpArgs false
set_option linter.unusedVariables false
set_option maxRecDepth 100000
namespace Go.Proofs.YteembinfgbapgaaGreat
open Go.RowKit

/-- where the field of a name stands in an object of some bytes, and which it is; or what is amiss -/
def locF (fs : List Fd) (len : Nat) (nm : ByteArray) : Int ⊕ (Nat × Fd) :=
  if rightF fs && decide (len = sizeF fs) then (if findZ fs nm < 0 then .inl 61 else .inr ((layL fs).getD (findZ fs nm).toNat 0, fs.getD (findZ fs nm).toNat Fd.z)) else .inl 60
theorem layL_length {fs : List Fd} (h : rightF fs = true) : (layL fs).length = fs.length := by rw [layL, if_pos h, List.length_map, seqF_length]
theorem loc_bad {fs : List Fd} {len : Nat} {nm : ByteArray} {q : Int} (h : locF fs len nm = .inl q) : (q = 60 ∧ (rightF fs = false ∨ ¬ len = sizeF fs)) ∨ (q = 61 ∧ rightF fs = true ∧ len = sizeF fs ∧ findZ fs nm < 0) := by
  unfold locF at h
  split at h
  · rename_i hr
    simp only [Bool.and_eq_true, decide_eq_true_eq] at hr
    split at h
    · cases h; exact .inr ⟨rfl, hr.1, hr.2, by assumption⟩
    · cases h
  · rename_i hr
    cases h
    refine .inl ⟨rfl, ?_⟩
    cases h2 : rightF fs
    · exact .inl rfl
    · exact .inr fun e => hr (by rw [h2, decide_eq_true e]; rfl)
theorem loc_ok {fs : List Fd} {len : Nat} {nm : ByteArray} {at_ : Nat} {f : Fd} (h : locF fs len nm = .inr (at_, f)) : rightF fs = true ∧ len = sizeF fs ∧ ∃ k : Nat, findZ fs nm = k ∧ fs[k]? = some f ∧ (layL fs)[k]? = some at_ := by
  unfold locF at h
  split at h
  · rename_i hr
    simp only [Bool.and_eq_true, decide_eq_true_eq] at hr
    split at h
    · cases h
    · rename_i hk
      have hb := findZ_ge fs nm
      have h1 : (findZ fs nm).toNat < fs.length := by omega
      have h2 : (findZ fs nm).toNat < (layL fs).length := by rw [layL_length hr.1]; exact h1
      cases h
      refine ⟨hr.1, hr.2, (findZ fs nm).toNat, by omega, ?_, ?_⟩
      · rw [List.getD_eq_getElem?_getD, List.getElem?_eq_getElem h1]; rfl
      · rw [List.getD_eq_getElem?_getD, List.getElem?_eq_getElem h2]; rfl
  · cases h
theorem endF_append (nx : Nat) (a b : List Fd) : endF nx (a ++ b) = endF (endF nx a) b := by
  induction a generalizing nx with
  | nil => rfl
  | cons g r ih => exact ih _
theorem endF_ge {nx : Nat} {fs : List Fd} (h : MayF fs) : nx ≤ endF nx fs := by
  induction fs generalizing nx with
  | nil => simp [endF]
  | cons g r ih =>
    have h1 := atF_le (nx := nx) (h g (List.mem_cons_self ..))
    have h3 := ih (nx := atF nx g + g.n) (fun f hf => h f (List.mem_cons_of_mem _ hf))
    rw [endF]; omega
theorem seqF_get {fs : List Fd} {k : Nat} {f : Fd} (nx : Nat) (hf : fs[k]? = some f) : (seqF nx fs)[k]? = some (atF (endF nx (fs.take k)) f, f) := by
  induction fs generalizing nx k with
  | nil => simp at hf
  | cons g r ih =>
    cases k with
    | zero => simp at hf; subst hf; rfl
    | succ k =>
      have := ih (atF nx g + g.n) (k := k) (by simpa using hf)
      simpa [seqF, endF] using this
theorem lay_end {fs : List Fd} (hm : MayF fs) {k : Nat} {f : Fd} (hf : fs[k]? = some f) : atF (endF 0 (fs.take k)) f + f.n ≤ endF 0 fs := by
  obtain ⟨_, e2⟩ := seqF_take hf
  rw [← e2]
  have e : fs = fs.take (k + 1) ++ fs.drop (k + 1) := (List.take_append_drop _ _).symm
  conv => rhs; rw [e, endF_append]
  exact endF_ge fun g hg => hm g (List.mem_of_mem_drop hg)
theorem loc_in {fs : List Fd} {len : Nat} {nm : ByteArray} {at_ : Nat} {f : Fd} (h : locF fs len nm = .inr (at_, f)) : mayB f.k f.l = true ∧ at_ + f.n ≤ len ∧ len ≤ 4096 ∧ 0 < f.n := by
  obtain ⟨hr, hl, k, hk, hf, hat⟩ := loc_ok h
  obtain ⟨hm, _⟩ := rightF_may hr
  have hmf := hm f (List.mem_of_getElem? hf)
  refine ⟨hmf, ?_, by have := sizeF_le fs; omega, Fd.n_pos hmf⟩
  rw [layL, if_pos hr, List.getElem?_map, seqF_get 0 hf] at hat
  simp at hat
  have h1 := lay_end hm hf
  have h2 := upN_le (endF 0 fs) 8 (by omega)
  rw [hl, sizeF, if_pos hr]
  omega
theorem place_bad (Ab : Option Addr) (nb cb : Nat) (A : Option Addr) (c : Nat) (fs : List Fd) (nm : ByteArray) (q : Int) (h : locF fs nb nm = .inl q) (w : World) (hA : Rd w A (cellsF fs)) (hl : fs.length ≤ 9223372036854775807) :
    Calls Tryz.prog 106 #[.slice Ab nb cb, .slice A fs.length c, .string nm] w fun e w' => e = .returned (.tuple #[.int .i64 0, .agg #[.string ⟨#[]⟩, .int .i64 0, .int .i64 0], .int .i64 q]) ∧ Below w.heap.size w w' := by
  rcases loc_bad h with ⟨rfl, h0⟩ | ⟨rfl, h1, h2, h3⟩
  · exact place_form Ab nb cb A c fs nm w hA hl h0
  · exact place_none Ab nb cb A c fs nm w hA hl h1 h2 h3
theorem place_is (Ab : Option Addr) (nb cb : Nat) (A : Option Addr) (c : Nat) (fs : List Fd) (nm : ByteArray) (at_ : Nat) (f : Fd) (h : locF fs nb nm = .inr (at_, f)) (w : World) (hA : Rd w A (cellsF fs)) (hl : fs.length ≤ 9223372036854775807) :
    Calls Tryz.prog 106 #[.slice Ab nb cb, .slice A fs.length c, .string nm] w fun e w' => e = .returned (.tuple #[.int .i64 at_, .agg #[.string f.s, .int .i64 f.k, .int .i64 f.l], .int .i64 0]) ∧ Below w.heap.size w w' := by
  obtain ⟨hr, hn, k, hk, hf, hat⟩ := loc_ok h
  exact place_ok Ab nb cb A c fs nm w hA hl hr hn k f at_ hk hf hat
/-- a value, as its three parts -/
structure Vl where
  k : Int
  b : Int
  t : ByteArray
def Vl.v (x : Vl) : Value := .agg #[.int .i64 x.k, .int .u64 x.b, .string x.t]
def Vl.z : Vl := ⟨0, 0, ⟨#[]⟩⟩
/-- the value that bytes are -/
def decF (l : List UInt8) (f : Fd) : Vl := if decB l f.k f.l = true then ⟨f.k, decZ l f.k f.l, decT l f.k⟩ else Vl.z
theorem decF_v (l : List UInt8) (f : Fd) : decV l f.k f.l = (decF l f).v := by
  unfold decF
  cases h : decB l f.k f.l
  · rw [(decV_no h).1]; rfl
  · rw [(decV_ok h).1]; rfl
/-- what is got -/
def getV (b : List UInt8) (fs : List Fd) (nm : ByteArray) : Vl := match locF fs b.length nm with
  | .inl _ => Vl.z
  | .inr (at_, f) => decF ((b.drop at_).take f.n) f
def getE (b : List UInt8) (fs : List Fd) (nm : ByteArray) : Int := match locF fs b.length nm with
  | .inl q => q
  | .inr (at_, f) => decE ((b.drop at_).take f.n) f.k f.l
theorem Decode_is (A : Option Addr) (c m : Nat) (l : List UInt8) (s : ByteArray) (k long : Int) (v : Vl) (q : Int) (w : World) (hA : Rd w A (bytesV l)) (hm : l.length = m) (hl : m ≤ 9223372036854775807) (hv : decV l k long = v.v) (hq : decE l k long = q) :
    Calls Tryz.prog 88 #[.slice A m c, .agg #[.string s, .int .i64 k, .int .i64 long]] w fun e w' => e = .returned (.tuple #[.agg #[.int .i64 v.k, .int .u64 v.b, .string v.t], .int .i64 q]) ∧ Below w.heap.size w w' := by
  subst hq hm
  have := Decode_calls A c l s k long w hA hl
  rw [hv] at this
  exact this
/-- a part of what is read -/
theorem Rd.slice {w : World} {ad : Addr} {l : List UInt8} (h : Rd w (some ad) (bytesV l)) (i n : Nat) : Rd w (some (ad.add i)) (bytesV ((l.drop i).take n)) := fun hne => by
  obtain ⟨ad', e, hc⟩ := h (by rintro e; simp [bytesV] at e; subst e; simp [bytesV] at hne)
  cases e
  refine ⟨_, rfl, fun j u hj => ?_⟩
  rw [Addr.add_add]
  apply hc
  simp only [bytesV, List.getElem?_map, List.getElem?_take, List.getElem?_drop] at hj ⊢
  split at hj
  · exact hj
  · simp at hj
theorem Rd.some_of {w : World} {A : Option Addr} {cs : List Value} (h : Rd w A cs) (hne : cs ≠ []) : ∃ ad, A = some ad := by
  obtain ⟨ad, e, _⟩ := h hne; exact ⟨ad, e⟩
set_option maxHeartbeats 4000000 in
theorem Get_bad (Ab : Option Addr) (cb : Nat) (b : List UInt8) (A : Option Addr) (c : Nat) (fs : List Fd) (nm : ByteArray) (q : Int) (h : locF fs b.length nm = .inl q) (w : World) (hA : Rd w A (cellsF fs)) (hl : fs.length ≤ 9223372036854775807) :
    Calls Tryz.prog 71 #[.slice Ab b.length cb, .slice A fs.length c, .string nm] w fun e w' => e = .returned (.tuple #[.agg #[.int .i64 0, .int .u64 0, .string ⟨#[]⟩], .int .i64 q]) ∧ Below w.heap.size w w' := by
  have hq : (q != 0) = true := by rcases loc_bad h with ⟨rfl, _⟩ | ⟨rfl, _⟩ <;> rfl
  have H := Lib.hid h
  clear h
  go_enter Tryz.func71, Tryz.ntmps71
  go_wp2_with (go_at_call 106; refine (place_bad Ab b.length cb A c fs nm q H.out _ (hA.below (below_new _)) hl).mono ?_; rintro e w1 ⟨rfl, hb1⟩; obtain ⟨k0, k1, k2, f0, f1, f2⟩ := ((OBox.new w [.int .i64 0, .int .u64 0, .string ⟨#[]⟩] 71).below hb1).f3; have HB := below_seq (below_new _) hb1; have hz1 : w.heap.size < w1.heap.size := (by have := hb1.size; simp at this; omega))
  refine bodyPost_ret (v := .tuple #[.agg #[.int .i64 0, .int .u64 0, .string ⟨#[]⟩], .int .i64 q]) (by simp [results, Tryz.results71, go_sem, *]; done) rfl ⟨rfl, ?_⟩
  (repeat (first | exact HB | refine Below.setCell ?_ (by dsimp only; omega) _ | refine Below.alloc ?_ (by have hs_ := HB.size; first | (simp; done) | (simp; omega) | omega) _ | apply Below.drew))
set_option maxHeartbeats 4000000 in
theorem Get_ok (Ab : Option Addr) (cb : Nat) (b : List UInt8) (A : Option Addr) (c : Nat) (fs : List Fd) (nm : ByteArray) (at_ : Nat) (f : Fd) (h : locF fs b.length nm = .inr (at_, f)) (w : World) (hA : Rd w A (cellsF fs)) (hl : fs.length ≤ 9223372036854775807) (hb : Rd w Ab (bytesV b)) (hcb : b.length ≤ cb) :
    Calls Tryz.prog 71 #[.slice Ab b.length cb, .slice A fs.length c, .string nm] w fun e w' => e = .returned (.tuple #[(decF ((b.drop at_).take f.n) f).v, .int .i64 (decE ((b.drop at_).take f.n) f.k f.l)]) ∧ Below w.heap.size w w' := by
  obtain ⟨hm, hin, hlen, hn⟩ := loc_in h
  have hn2 := f.n_le
  obtain ⟨bd, rfl⟩ := hb.some_of (by simp [bytesV]; intro e; subst e; simp at hin; omega)
  have hdl : ((b.drop at_).take f.n).length = f.n := by rw [List.length_take, List.length_drop]; omega
  obtain ⟨dv, hdv⟩ : ∃ x, decF ((b.drop at_).take f.n) f = x := ⟨_, rfl⟩
  obtain ⟨de, hde⟩ : ∃ x, decE ((b.drop at_).take f.n) f.k f.l = x := ⟨_, rfl⟩
  rw [hdv, hde]
  have HDV := Lib.hid ((decF_v _ f).trans (congrArg Vl.v hdv))
  have HDE := Lib.hid hde
  have HDL := Lib.hid hdl
  have HN := Lib.hid f.n_eq.symm
  have H := Lib.hid h

  clear h hdv hde hdl
  go_enter Tryz.func71, Tryz.ntmps71
  go_wp2_with (go_at_call 106; refine (place_is (some bd) b.length cb A c fs nm at_ f H.out _ (hA.below (below_new _)) hl).mono ?_; rintro e w1 ⟨rfl, hb1⟩; have O1 := ((OBox.new w [.int .i64 0, .int .u64 0, .string ⟨#[]⟩] 71).below hb1); obtain ⟨k0, k1, k2, f0, f1, f2⟩ := O1.f3; have HB := below_seq (below_new _) hb1; have hz1 : w.heap.size < w1.heap.size := (by have := hb1.size; simp at this; omega))
  have F0 := FBox.new w1 f.s f.k f.l
  have O2 := O1.below (below_new (w := w1) (.cells #[.string f.s, .int .i64 f.k, .int .i64 f.l] 68))
  have hbs := ((hb.slice at_ f.n).below (below_new _)).below hb1 |>.below (below_new (w := w1) (.cells #[.string f.s, .int .i64 f.k, .int .i64 f.l] 68))
  have hcut : (at_ : Int) + (f.n : Int) ≤ (cb : Int) := by omega
  have hcut2 : (at_ : Int) ≤ (at_ : Int) + (f.n : Int) := by omega
  have hcut3 : ((at_ : Int) + (f.n : Int)).toNat = at_ + f.n := by omega
  have hcut4 : ¬ cb = at_ := by omega
  have hlong : f.n ≤ 9223372036854775807 := by omega
  have hcut0 : (0 : Int) ≤ (at_ : Int) + (f.n : Int) := by omega
  have hcut5 : IntKind.i64.wrap ((at_ : Int) + (f.n : Int)) = (at_ : Int) + (f.n : Int) := IntWalk.i64_in _ (by omega)
  obtain ⟨WX, hWX⟩ : ∃ WX, w1.alloc (.cells #[.string f.s, .int .i64 f.k, .int .i64 f.l] 68) = WX := ⟨_, rfl⟩
  have HB := HB.alloc (by omega) (.cells #[.string f.s, .int .i64 f.k, .int .i64 f.l] 68)
  have hzx : w1.heap.size < WX.heap.size := by rw [← hWX]; simp
  rw [hWX] at F0 O2 hbs HB ⊢
  clear hWX k0 k1 k2 f0 f1 f2 O1 hb1 hb hA
  obtain ⟨c0, c1, c2⟩ := F0
  obtain ⟨k0, k1, k2, f0, f1, f2⟩ := O2.f3
  have F1 : FBox WX.drew w1.heap.size f.s f.k f.l := ⟨c0, c1, c2⟩
  have O3 : OBox WX.drew w.heap.size [.int .i64 0, .int .u64 0, .string ⟨#[]⟩] 71 := O2
  have hbs : Rd WX.drew (some (bd.add at_)) (bytesV ((b.drop at_).take f.n)) := hbs
  have HB := HB.drew
  clear H O2
  go_region_with (first
    | (go_at_call 89; refine (Long_is _ _ _ _ HN.out _).mono ?_; rintro e w2 ⟨rfl, hb2⟩; obtain ⟨e0, e1, e2⟩ := F1.below hb2)
    | (go_at_call 88; refine (Decode_is _ _ f.n _ _ _ _ dv de _ (hbs.below hb2) HDL.out hlong HDV.out HDE.out).mono ?_; rintro e w3 ⟨rfl, hb3⟩; obtain ⟨l0, l1, l2, m0, m1, m2⟩ := ((O3.below hb2).below hb3).f3))
  all_goals go_wp2
  all_goals refine bodyPost_ret (v := .tuple #[.agg #[.int .i64 dv.k, .int .u64 dv.b, .string dv.t], .int .i64 de]) (by simp [results, Tryz.results71, go_sem, *]; done) rfl ⟨rfl, ?_⟩
  all_goals have HB := below_seq (below_seq HB hb2) hb3
  all_goals (repeat (first | exact HB | refine Below.setCell ?_ (by dsimp only; omega) _ | refine Below.alloc ?_ (by have hs_ := HB.size; first | (simp; done) | (simp; omega) | omega) _ | apply Below.drew))
theorem Get_calls (Ab : Option Addr) (cb : Nat) (b : List UInt8) (A : Option Addr) (c : Nat) (fs : List Fd) (nm : ByteArray) (w : World) (hA : Rd w A (cellsF fs)) (hl : fs.length ≤ 9223372036854775807) (hb : Rd w Ab (bytesV b)) (hcb : b.length ≤ cb) :
    Calls Tryz.prog 71 #[.slice Ab b.length cb, .slice A fs.length c, .string nm] w fun e w' => e = .returned (.tuple #[(getV b fs nm).v, .int .i64 (getE b fs nm)]) ∧ Below w.heap.size w w' := by
  cases h : locF fs b.length nm with
  | inl q =>
    have e1 : getV b fs nm = Vl.z := by simp [getV, h]
    have e2 : getE b fs nm = q := by simp [getE, h]
    rw [e1, e2]
    exact Get_bad Ab cb b A c fs nm q h w hA hl
  | inr x =>
    obtain ⟨at_, f⟩ := x
    have e1 : getV b fs nm = decF ((b.drop at_).take f.n) f := by simp [getV, h]
    have e2 : getE b fs nm = decE ((b.drop at_).take f.n) f.k f.l := by simp [getE, h]
    rw [e1, e2]
    exact Get_ok Ab cb b A c fs nm at_ f h w hA hl hb hcb
end Go.Proofs.YteembinfgbapgaaGreat
/- Layer 6 of the heap, fields, twelfth part: a field of an object is set. -/
set_option linter.unusedSimpArgs false
set_option linter.unusedVariables false
set_option maxRecDepth 100000
namespace Go.Proofs.YteembinfgbapgaaGreat
open Go.RowKit

set_option maxHeartbeats 1600000 in
theorem Clone_calls (A : Option Addr) (c : Nat) (b : List UInt8) (w : World) (hA : Rd w A (bytesV b)) (hl : b.length ≤ 140737488355328) :
    Calls Tryz.prog 38 #[.slice A b.length c] w fun e w' => ∃ v, e = .returned v ∧ w'.ownsRow w.heap.size 5 1 v b.length (bytesV b) ∧ Below w.heap.size w w' := by
  obtain ⟨i0, hi, hz0, hz1, hz2⟩ := info_parts info5
  cases A with
  | none =>
    obtain rfl : b = [] := by
      cases b with
      | nil => rfl
      | cons x r => obtain ⟨ad, e, _⟩ := hA (by simp [bytesV]); cases e
    have heq : ∀ w : World, (binOp .eql 44 (.slice none 0 c) (.slice none 0 0)).run Tryz.prog w = .ok (.bool true) w := fun w => Lib.run_eql_slice_nil (P := Tryz.prog) w 44 5 none 0 c 0 0 Tryz.underlying44
    go_enter Tryz.func38, Tryz.ntmps38
    go_wp2
    go_ret
    exact ⟨_, rfl, own_nil _ _ _ _, Below.refl _ _⟩
  | some ad =>
    have heq : ∀ w : World, (binOp .eql 44 (.slice (some ad) b.length c) (.slice none 0 0)).run Tryz.prog w = .ok (.bool false) w := fun w => Lib.run_eql_slice_nil (P := Tryz.prog) w 44 5 (some ad) b.length c 0 0 Tryz.underlying44
    have hown : (w.alloc (.cells #[] 5)).ownsRow w.heap.size 5 1 (.slice (some ⟨w.heap.size, 0, none⟩) 0 0) 0 [] := ⟨rfl, .inr ⟨_, 0, #[], rfl, Nat.le_refl _, World.alloc_heap_new _ _, Nat.le_refl _, Nat.zero_le _, rfl, rfl⟩⟩
    have hA2 := hA.below (below_new (.cells #[] 5))
    go_enter Tryz.func38, Tryz.ntmps38
    go_wp2_with (at_builtin; refine wpList_append_own _ rfl _ _ 44 rfl w.heap.size 5 i0 (.int .u8 0) 1 1 Tryz.underlying44 hi hz0 hz1 hz2 rfl (by decide) _ _ _ rfl hown ad b.length c (bytesV b) rfl ?c0 ?c1 ?c2 ?c3 ?c4 ?c5 ?_)
    case c0 => rw [bytesV_length]; omega
    case c1 =>
      intro j u hj
      obtain ⟨ad', e, h⟩ := hA2 (by rintro e; rw [e] at hj; simp at hj)
      cases e; exact h j u hj
    case c2 => intro u hu; simp [bytesV] at hu; obtain ⟨x, _, rfl⟩ := hu; rfl
    case c3 => simp only [maxLen]; omega
    case c4 => omega
    case c5 => simp
    intro v' w1 hown' hgrow _
    have hB := (below_new (w := w) (.cells #[] 5)).grown hgrow (by simp) (fun q hq => own_base hown q hq)
    clear hown hgrow
    go_wp2
    go_ret
    exact ⟨_, rfl, hown', hB⟩
theorem encL_length {bits : Int} {tx : ByteArray} {f : Fd} {vk : Int} (h : rightB vk bits tx f.k f.l = true) : (encL bits tx f.k f.l).length = f.n := by
  obtain ⟨hm, _, ht, _⟩ := right_may h
  unfold encL Fd.n
  split
  · rename_i hk
    rw [if_pos hk] at ht
    rw [hk] at hm ⊢
    rw [long_12 hm, bl_length]; omega
  · rw [leL_length]
/-- bytes over bytes, from a place on -/
def overB (b : List UInt8) (i : Nat) (x : List UInt8) : List UInt8 := b.take i ++ x ++ b.drop (i + x.length)
theorem overB_length {b : List UInt8} {i : Nat} {x : List UInt8} (h : i + x.length ≤ b.length) : (overB b i x).length = b.length := by simp [overB]; omega
/-- the bytes of an object of which a field was set -/
def setB (b : List UInt8) (fs : List Fd) (nm : ByteArray) (v : Vl) : List UInt8 := match locF fs b.length nm with
  | .inl _ => []
  | .inr (at_, f) => if rightB v.k v.b v.t f.k f.l = true then overB b at_ (encL v.b v.t f.k f.l) else []
def setE (b : List UInt8) (fs : List Fd) (nm : ByteArray) (v : Vl) : Int := match locF fs b.length nm with
  | .inl q => q
  | .inr (_, f) => if rightB v.k v.b v.t f.k f.l = true then 0 else 50
theorem bytesV_take (l : List UInt8) (n : Nat) : (bytesV l).take n = bytesV (l.take n) := by simp [bytesV]
theorem bytesV_drop (l : List UInt8) (n : Nat) : (bytesV l).drop n = bytesV (l.drop n) := by simp [bytesV]
theorem splice_take {cur : List Value} {b x : List UInt8} {i : Nat} (hc : cur.take b.length = bytesV b) (h : i + x.length ≤ b.length) : (splice cur i (bytesV x)).take b.length = bytesV (overB b i x) := by
  have hlen : b.length ≤ cur.length := by
    have := congrArg List.length hc
    rw [List.length_take, bytesV_length] at this; omega
  have h1 : cur.take i = bytesV (b.take i) := by rw [← bytesV_take, ← hc, List.take_take, Nat.min_eq_left (by omega)]
  have h2 : (cur.drop (i + x.length)).take (b.length - (i + x.length)) = bytesV (b.drop (i + x.length)) := by
    rw [← bytesV_drop, ← hc, List.drop_take]
  rw [splice, bytesV_length, h1, overB, bytesV_append, bytesV_append, List.append_assoc]
  rw [List.take_append, List.take_append, bytesV_length, bytesV_length, List.take_of_length_le (by rw [bytesV_length, List.length_take]; omega), List.take_of_length_le (l := bytesV x) (by rw [bytesV_length, List.length_take]; omega)]
  congr 2
  rw [← h2]
  congr 1
  rw [List.length_take]; omega
theorem sz5 : (Tryz.prog.info? 5).map (·.size) = some 1 := by kernel_rfl
theorem own_some {w : World} {base : Nat} {e : TypeId} {n : Nat} {v : Value} {xs : List Value} (h : w.ownsRow base e 1 v n xs) (hn : 0 < n) : ∃ g cap cur, v = .slice (some ⟨g, 0, none⟩) n cap ∧ base ≤ g ∧ OBox w g cur e ∧ n ≤ cap ∧ cap ≤ maxLen ∧ cur.length = cap ∧ cur.take n = xs := by
  obtain ⟨h1, ⟨_, h0⟩ | ⟨g, cap, cur, rfl, hg, hgb, hnc, hcm, hcs, hct⟩⟩ := h
  · omega
  · exact ⟨g, cap, cur.toList, rfl, hg, hgb, hnc, hcm, by rw [Array.length_toList, hcs]; omega, by simpa using hct⟩
set_option maxHeartbeats 4000000 in
theorem Set_bad (Ab : Option Addr) (cb : Nat) (b : List UInt8) (A : Option Addr) (c : Nat) (fs : List Fd) (nm : ByteArray) (v : Vl) (q : Int) (h : locF fs b.length nm = .inl q) (w : World) (hA : Rd w A (cellsF fs)) (hl : fs.length ≤ 9223372036854775807) :
    Calls Tryz.prog 75 #[.slice Ab b.length cb, .slice A fs.length c, .string nm, v.v] w fun e w' => e = .returned (.tuple #[.slice none 0 0, .int .i64 q]) ∧ Below w.heap.size w w' := by
  have hq : (q != 0) = true := by rcases loc_bad h with ⟨rfl, _⟩ | ⟨rfl, _⟩ <;> rfl
  have H := Lib.hid h
  clear h
  unfold Vl.v
  go_enter Tryz.func75, Tryz.ntmps75
  go_wp2_with (go_at_call 106; refine (place_bad Ab b.length cb A c fs nm q H.out _ (hA.below (below_new _)) hl).mono ?_; rintro e w1 ⟨rfl, hb1⟩; have HB := below_seq (below_new _) hb1; have hz1 : w.heap.size < w1.heap.size := (by have := hb1.size; simp at this; omega))
  go_ret2
  refine ⟨rfl, ?_⟩
  (repeat (first | exact HB | refine Below.setCell ?_ (by dsimp only; omega) _ | refine Below.alloc ?_ (by have hs_ := HB.size; first | (simp; done) | (simp; omega) | omega) _ | apply Below.drew))
set_option maxHeartbeats 4000000 in
theorem Set_not (Ab : Option Addr) (cb : Nat) (b : List UInt8) (A : Option Addr) (c : Nat) (fs : List Fd) (nm : ByteArray) (v : Vl) (h0 : 0 ≤ v.b) (h1 : v.b < 18446744073709551616) (at_ : Nat) (f : Fd) (h : locF fs b.length nm = .inr (at_, f)) (hr : rightB v.k v.b v.t f.k f.l = false) (w : World) (hA : Rd w A (cellsF fs)) (hl : fs.length ≤ 9223372036854775807) :
    Calls Tryz.prog 75 #[.slice Ab b.length cb, .slice A fs.length c, .string nm, v.v] w fun e w' => e = .returned (.tuple #[.slice none 0 0, .int .i64 50]) ∧ Below w.heap.size w w' := by
  have H := Lib.hid h
  have HR := Lib.hid hr
  clear h hr
  unfold Vl.v
  go_enter Tryz.func75, Tryz.ntmps75
  go_wp2_with (first
    | (go_at_call 106; refine (place_is Ab b.length cb A c fs nm at_ f H.out _ (hA.below (below_new _)) hl).mono ?_; rintro e w1 ⟨rfl, hb1⟩; have HB := below_seq (below_new _) hb1; have hz1 : w.heap.size < w1.heap.size := (by have := hb1.size; simp at this; omega); obtain ⟨c0, c1, c2⟩ := (VBox.new w v.k v.b v.t).below hb1)
    | (go_at_call 61; refine (Encode_none _ _ _ _ _ _ h0 h1 HR.out _).mono ?_; rintro e w2 ⟨rfl, hb2⟩; have HB := below_seq (HB.alloc (by omega) _) hb2))
  go_ret2
  refine ⟨rfl, ?_⟩
  (repeat (first | exact HB | refine Below.setCell ?_ (by dsimp only; omega) _ | refine Below.alloc ?_ (by have hs_ := HB.size; first | (simp; done) | (simp; omega) | omega) _ | apply Below.drew))
set_option maxHeartbeats 4000000 in
theorem Set_ok (Ab : Option Addr) (cb : Nat) (b : List UInt8) (A : Option Addr) (c : Nat) (fs : List Fd) (nm : ByteArray) (v : Vl) (h0 : 0 ≤ v.b) (h1 : v.b < 18446744073709551616) (at_ : Nat) (f : Fd) (h : locF fs b.length nm = .inr (at_, f)) (hr : rightB v.k v.b v.t f.k f.l = true) (w : World) (hA : Rd w A (cellsF fs)) (hl : fs.length ≤ 9223372036854775807) (hb : Rd w Ab (bytesV b)) :
    Calls Tryz.prog 75 #[.slice Ab b.length cb, .slice A fs.length c, .string nm, v.v] w fun e w' => ∃ x, e = .returned (.tuple #[x, .int .i64 0]) ∧ OutB w' x (overB b at_ (encL v.b v.t f.k f.l)) ∧ Below w.heap.size w w' := by
  obtain ⟨hm, hin, hlen, hn⟩ := loc_in h
  have hel := encL_length hr
  obtain ⟨xs, hxs⟩ : ∃ xs, encL v.b v.t f.k f.l = xs := ⟨_, rfl⟩
  rw [hxs] at hel ⊢
  have H := Lib.hid h
  have HR := Lib.hid hr
  have HX := Lib.hid hxs
  clear h hr hxs
  unfold Vl.v
  go_enter Tryz.func75, Tryz.ntmps75
  go_wp2_with (first
    | (go_at_call 106; refine (place_is Ab b.length cb A c fs nm at_ f H.out _ (hA.below (below_new _)) hl).mono ?_; rintro e w1 ⟨rfl, hb1⟩; have HB := below_seq (below_new _) hb1; have hz1 : w.heap.size < w1.heap.size := (by have := hb1.size; simp at this; omega); obtain ⟨c0, c1, c2⟩ := (VBox.new w v.k v.b v.t).below hb1; have hbw := (hb.below (below_new _)).below hb1)
    | (go_at_call 61; refine (Encode_some _ _ _ _ _ _ h0 h1 HR.out _).mono ?_; rintro e w2 ⟨xv, rfl, hox, hb2⟩; have HB := below_seq (HB.alloc (by omega) _) hb2; rw [HX.out] at hox; have hz2 := HB.size; have hbw := (hbw.below (below_new _)).below hb2)
    | (go_at_call 38; refine (Clone_calls Ab cb b _ hbw (by omega)).mono ?_; rintro e w3 ⟨ov, rfl, hown, hb3⟩; have HB := below_seq HB hb3; have hox := hox.below hb3; obtain ⟨XA, xc, rfl, hxc, hxr⟩ := hox; obtain ⟨g, cap, cur, rfl, hg, hO, hnc, hcm, hcs, hct⟩ := own_some hown (by omega); have s1 : (at_ : Int) ≤ (b.length : Int) := (by omega); have s2 : ¬ cap = at_ := (by omega); have s3 : ¬ b.length = at_ := (by omega); have hO' : w3.heap[g]? = some (.cells cur.toArray 5 (0, 0)) := hO; clear hO)
    | (with_reducible refine wpList_copy_splice rfl _ _ 44 44 rfl 5 Tryz.underlying44 sz5 (some ⟨g, at_, none⟩) XA (b.length - at_) (cap - at_) f.n xc rfl rfl g at_ cur 5 hO' (bytesV xs) ?n ?pos ?fit ?one w.heap.size w HB ?hg ?_))
  case n => rw [bytesV_length, hel]; exact (Nat.min_eq_left (by omega)).symm
  case pos =>
    intro h
    obtain ⟨ad, rfl, hc⟩ := hxr (by intro e; rw [e] at h; simp at h)
    first | exact ⟨rfl, ad, rfl, hc⟩ | exact ⟨ad, rfl, hc⟩
  case fit => rw [bytesV_length]; omega
  case one => intro u hu; simp [bytesV] at hu; obtain ⟨x, _, rfl⟩ := hu; rfl
  case hg => omega
  intro w4 hO4 hB4
  have hO4 := hO4.out
  have hr4 : Rd w4 (some ⟨g, 0, none⟩) (bytesV (overB b at_ xs)) := by
    rw [← splice_take hct (by omega)]
    refine fun _ => ⟨_, rfl, fun j u hj => ?_⟩
    have e : (⟨g, 0, none⟩ : Addr).add j = ⟨g, j, none⟩ := by unfold Addr.add; split <;> simp_all
    rw [e]
    rw [List.getElem?_take] at hj
    split at hj
    · exact OBox.cell (w := w4) hO4 hj
    · cases hj
  clear hO4
  go_wp2
  go_ret2
  exact ⟨.slice (some ⟨g, 0, none⟩) b.length cap, rfl, ⟨_, cap, by rw [overB_length (by omega)], by rw [overB_length (by omega)]; exact hnc, hr4⟩, hB4⟩
theorem Set_calls (Ab : Option Addr) (cb : Nat) (b : List UInt8) (A : Option Addr) (c : Nat) (fs : List Fd) (nm : ByteArray) (v : Vl) (h0 : 0 ≤ v.b) (h1 : v.b < 18446744073709551616) (w : World) (hA : Rd w A (cellsF fs)) (hl : fs.length ≤ 9223372036854775807) (hb : Rd w Ab (bytesV b)) :
    Calls Tryz.prog 75 #[.slice Ab b.length cb, .slice A fs.length c, .string nm, v.v] w fun e w' => ∃ x, e = .returned (.tuple #[x, .int .i64 (setE b fs nm v)]) ∧ OutB w' x (setB b fs nm v) ∧ Below w.heap.size w w' := by
  cases h : locF fs b.length nm with
  | inl q =>
    have e1 : setB b fs nm v = [] := by simp [setB, h]
    have e2 : setE b fs nm v = q := by simp [setE, h]
    rw [e1, e2]
    refine (Set_bad Ab cb b A c fs nm v q h w hA hl).mono ?_
    rintro e w' ⟨rfl, hb⟩
    exact ⟨_, rfl, ⟨none, 0, rfl, Nat.le_refl _, Rd.nil _ _⟩, hb⟩
  | inr x =>
    obtain ⟨at_, f⟩ := x
    cases hr : rightB v.k v.b v.t f.k f.l
    · have e1 : setB b fs nm v = [] := by simp [setB, h, hr]
      have e2 : setE b fs nm v = 50 := by simp [setE, h, hr]
      rw [e1, e2]
      refine (Set_not Ab cb b A c fs nm v h0 h1 at_ f h hr w hA hl).mono ?_
      rintro e w' ⟨rfl, hb⟩
      exact ⟨_, rfl, ⟨none, 0, rfl, Nat.le_refl _, Rd.nil _ _⟩, hb⟩
    · have e1 : setB b fs nm v = overB b at_ (encL v.b v.t f.k f.l) := by simp [setB, h, hr]
      have e2 : setE b fs nm v = 0 := by simp [setE, h, hr]
      rw [e1, e2]
      exact Set_ok Ab cb b A c fs nm v h0 h1 at_ f h hr w hA hl hb
end Go.Proofs.YteembinfgbapgaaGreat
/- Layer 6 of the heap, fields, thirteenth part: fields are written. -/
set_option linter.unusedSimpArgs false
set_option linter.unusedVariables false
set_option maxRecDepth 100000
namespace Go.Proofs.YteembinfgbapgaaGreat
open Go.RowKit

theorem own_lt {w : World} {base : Nat} {e : TypeId} {size n : Nat} {v : Value} {xs : List Value} (h : w.ownsRow base e size v n xs) (k : Nat) (hk : v.ownBlock = some k) : k < w.heap.size := by
  rcases h.2 with ⟨rfl, _⟩ | ⟨g, cap, cur, rfl, hb, hg, _⟩
  · simp [Value.ownBlock] at hk
  · have : g = k := by simpa [Value.ownBlock] using hk
    subst this
    exact (Array.getElem?_eq_some_iff.1 hg).1
theorem own_eq {w : World} {base : Nat} {e : TypeId} {size n m : Nat} {v : Value} {xs ys : List Value} (h : w.ownsRow base e size v n xs) (hn : n = m) (hx : xs = ys) : w.ownsRow base e size v m ys := by subst hn hx; exact h
end Go.Proofs.YteembinfgbapgaaGreat
/- Layer 6 of the heap, fields, fifteenth part: fields are read. -/
set_option linter.unusedSimpArgs false
set_option linter.unusedVariables false
set_option maxRecDepth 100000
namespace Go.Proofs.YteembinfgbapgaaGreat
open Go.RowKit

theorem infoFd : (Tryz.prog.info? 68).map (fun i => (i.zero, i.size, i.bytes)) = some (some (.agg #[.string ⟨#[]⟩, .int .i64 0, .int .i64 0]), 3, 32) := by kernel_rfl
theorem cellsF_append (a b : List Fd) : cellsF (a ++ b) = cellsF a ++ cellsF b := by simp [cellsF]
theorem conv_at {w : World} {A : Option Addr} {l : List UInt8} (h : Rd w A (bytesV l)) (n c : Nat) (hn : l.length = n) : (convert 44 9 (.slice A n c)).run Tryz.prog w = .ok (.string (strL l)) w := by subst hn; exact conv_str h c
theorem news3 (w : World) (u v x : Value) (T : TypeId) : ∀ j y, [u, v, x][j]? = some y → (w.alloc (.cells #[u, v, x] T)).cell? ((⟨w.heap.size, 0, none⟩ : Addr).add j) = some y := by
  intro j y hj
  match j with
  | 0 => simp at hj; subst hj; exact cell_new w _ T 0 u rfl
  | 1 => simp at hj; subst hj; exact cell_new w _ T 1 v rfl
  | 2 => simp at hj; subst hj; exact cell_new w _ T 2 x rfl
  | j + 3 => simp at hj
end Go.Proofs.YteembinfgbapgaaGreat
/- Layer 6 of the heap, fields, twentieth part: the reference writes fields; two rows of fields are told apart. -/
set_option linter.unusedSimpArgs false
set_option linter.unusedVariables false
set_option maxRecDepth 100000
namespace Go.Proofs.YteembinfgbapgaaGreat
open Go.RowKit

instance : DecidableEq Fd := fun a b => decidable_of_iff (a.s = b.s ∧ a.k = b.k ∧ a.l = b.l) (by cases a; cases b; simp)
def sameFB (a b : List Fd) : Bool := decide (a = b)
theorem toList_iff (a b : ByteArray) : a.toList = b.toList ↔ a = b := by
  constructor
  · intro h
    simp only [ByteArray.toList_eq] at h
    have : a.data = b.data := Array.toList_inj.1 h
    cases a; cases b; simp_all
  · intro h; rw [h]
theorem fd_ways (x y : Fd) : (¬ x = y ∧ ¬ x.s.toList = y.s.toList) ∨ (¬ x = y ∧ x.s.toList = y.s.toList ∧ ¬ x.k = y.k) ∨ (¬ x = y ∧ x.s.toList = y.s.toList ∧ x.k = y.k ∧ ¬ x.l = y.l) ∨ (x = y ∧ x.s.toList = y.s.toList ∧ x.k = y.k ∧ x.l = y.l) := by
  simp only [toList_iff]
  have e : x = y ↔ x.s = y.s ∧ x.k = y.k ∧ x.l = y.l := by cases x; cases y; simp
  rw [e]
  by_cases h1 : x.s = y.s <;> by_cases h2 : x.k = y.k <;> by_cases h3 : x.l = y.l <;> simp [h1, h2, h3]
end Go.Proofs.YteembinfgbapgaaGreat
/- Layer 6 of the heap, fields, twenty-second part: the contracts once more, their numbers under letters; the law's small functions. -/
set_option linter.unusedSimpArgs false
set_option linter.unusedVariables false
set_option maxRecDepth 100000
namespace Go.Proofs.YteembinfgbapgaaGreat
open Go.RowKit

theorem Right_m (A : Option Addr) (c m : Nat) (fs : List Fd) (hm : fs.length = m) (r : Bool) (h : rightF fs = r) (w : World) (hA : Rd w A (cellsF fs)) (hl : m ≤ 9223372036854775807) :
    Calls Tryz.prog 62 #[.slice A m c] w fun e w' => e = .returned (.bool r) ∧ Below w.heap.size w w' := by subst hm; exact FRight_is A c fs r h w hA hl
theorem Layout_m (A : Option Addr) (c m : Nat) (fs : List Fd) (hm : fs.length = m) (z : Nat) (hz : sizeF fs = z) (ls : List Nat) (hls : layL fs = ls) (n : Nat) (hn : ls.length = n) (w : World) (hA : Rd w A (cellsF fs)) (hl : m ≤ 9223372036854775807) :
    Calls Tryz.prog 70 #[.slice A m c] w fun e w' => ∃ B c', e = .returned (.tuple #[.slice B n c', .int .i64 (z : Nat)]) ∧ Rd w' B (intsV ls) ∧ Below w.heap.size w w' := by
  subst hm hls hn
  refine (Layout_is A c fs z hz w hA hl).mono ?_
  rintro e w' ⟨B, m, c', rfl, rfl, hr, hb⟩
  exact ⟨B, c', rfl, hr, hb⟩
theorem New_m (A : Option Addr) (c m : Nat) (fs : List Fd) (hm : fs.length = m) (z : Nat) (hz : sizeF fs = z) (w : World) (hA : Rd w A (cellsF fs)) (hl : m ≤ 9223372036854775807) :
    Calls Tryz.prog 73 #[.slice A m c] w fun e w' => ∃ B c', e = .returned (.slice B z c') ∧ z ≤ c' ∧ Rd w' B (bytesV (List.replicate z 0)) ∧ Below w.heap.size w w' := by
  subst hm hz
  refine (New_calls A c fs w hA hl).mono ?_
  rintro e w' ⟨v, rfl, ⟨B, c', rfl, hc, hr⟩, hb⟩
  rw [List.length_replicate] at *
  exact ⟨B, c', rfl, hc, hr, hb⟩
theorem Find_m (A : Option Addr) (c m : Nat) (fs : List Fd) (hm : fs.length = m) (nm : ByteArray) (r : Int) (h : findZ fs nm = r) (w : World) (hA : Rd w A (cellsF fs)) (hl : m ≤ 9223372036854775807) :
    Calls Tryz.prog 96 #[.slice A m c, .string nm] w fun e w' => e = .returned (.int .i64 r) ∧ Below w.heap.size w w' := by subst hm; exact Find_is A c fs nm r h w hA hl
theorem Get_m (Ab : Option Addr) (nb cb : Nat) (b : List UInt8) (hb0 : b.length = nb) (A : Option Addr) (c m : Nat) (fs : List Fd) (hm : fs.length = m) (nm : ByteArray) (v : Vl) (hv : getV b fs nm = v) (q : Int) (hq : getE b fs nm = q) (w : World) (hA : Rd w A (cellsF fs)) (hl : m ≤ 9223372036854775807) (hb : Rd w Ab (bytesV b)) (hcb : nb ≤ cb) :
    Calls Tryz.prog 71 #[.slice Ab nb cb, .slice A m c, .string nm] w fun e w' => e = .returned (.tuple #[.agg #[.int .i64 v.k, .int .u64 v.b, .string v.t], .int .i64 q]) ∧ Below w.heap.size w w' := by
  subst hb0 hm hv hq; exact Get_calls Ab cb b A c fs nm w hA hl hb hcb
theorem Set_m (Ab : Option Addr) (nb cb : Nat) (b : List UInt8) (hb0 : b.length = nb) (A : Option Addr) (c m : Nat) (fs : List Fd) (hm : fs.length = m) (nm : ByteArray) (k u : Int) (t : ByteArray) (h0 : 0 ≤ u) (h1 : u < 18446744073709551616) (x : List UInt8) (hx : setB b fs nm ⟨k, u, t⟩ = x) (n : Nat) (hn : x.length = n) (q : Int) (hq : setE b fs nm ⟨k, u, t⟩ = q) (w : World) (hA : Rd w A (cellsF fs)) (hl : m ≤ 9223372036854775807) (hb : Rd w Ab (bytesV b)) :
    Calls Tryz.prog 75 #[.slice Ab nb cb, .slice A m c, .string nm, .agg #[.int .i64 k, .int .u64 u, .string t]] w fun e w' => ∃ B c', e = .returned (.tuple #[.slice B n c', .int .i64 q]) ∧ n ≤ c' ∧ Rd w' B (bytesV x) ∧ Below w.heap.size w w' := by
  subst hb0 hm hx hq hn
  refine (Set_calls Ab cb b A c fs nm ⟨k, u, t⟩ h0 h1 w hA hl hb).mono ?_
  rintro e w' ⟨v, rfl, ⟨B, c', rfl, hc, hr⟩, hb⟩
  exact ⟨B, c', rfl, hc, hr, hb⟩
end Go.Proofs.YteembinfgbapgaaGreat
/- Layer 6 of the heap, fields, twenty-third part: the law's example. -/
set_option linter.unusedSimpArgs false
set_option linter.unusedVariables false
set_option maxRecDepth 100000
namespace Go.Proofs.YteembinfgbapgaaGreat
open Go.RowKit

def X0 : List UInt8 := [0, 0, 0, 0, 2, 1, 0, 0, 0, 0, 0, 0, 0, 0, 0, 0, 0, 0, 0, 0, 0, 0, 0, 0]
end Go.Proofs.YteembinfgbapgaaGreat
/- Right fields, in plain words, for the laws. -/
set_option linter.unusedSimpArgs false
set_option linter.unusedVariables false
set_option maxRecDepth 100000
namespace Go.Proofs.YteembinfgbapgaaGreat
open Go.RowKit

theorem rightF_ok {fs : List Fd} (hr : rightF fs = true) {k : Nat} {f : Fd} (hf : fs[k]? = some f) : nameB f.s = true ∧ mayB f.k f.l = true ∧ findZ fs f.s = k := by
  simp only [rightF, Bool.and_eq_true, decide_eq_true_eq] at hr
  obtain ⟨h1, h2⟩ := List.getElem?_eq_some_iff.1 hf
  have := hr.1 k h1
  rw [h2] at this
  simp only [okF, Bool.and_eq_true, decide_eq_true_eq] at this
  exact ⟨this.1.1, this.1.2, this.2⟩
end Go.Proofs.YteembinfgbapgaaGreat
/- Layer 5's laws: the test that something is alive. -/
set_option linter.unusedSimpArgs false
set_option linter.unusedVariables false
set_option maxRecDepth 100000
namespace Go.Proofs.YteembinfgbapgaaGreat
open Go.RowKit

theorem Cast_is (vk bits : Int) (tx s s2 : ByteArray) (k l k2 l2 : Int) (h0 : 0 ≤ bits) (h1 : bits < 18446744073709551616) (v : Value) (q : Int) (hv : castV vk bits tx k l k2 l2 = v) (hq : castE vk bits tx k l k2 l2 = q) (w : World) :
    Calls Tryz.prog 74 #[.agg #[.int .i64 vk, .int .u64 bits, .string tx], .agg #[.string s, .int .i64 k, .int .i64 l], .agg #[.string s2, .int .i64 k2, .int .i64 l2]] w fun e w' => e = .returned (.tuple #[v, .int .i64 q]) ∧ Below w.heap.size w w' := by
  subst hv hq; exact Cast_calls vk bits tx s s2 k l k2 l2 h0 h1 w
end Go.Proofs.YteembinfgbapgaaGreat
/- Layer 5's reference, eighth part: bytes that are cast; every cast. -/
set_option linter.unusedSimpArgs false
set_option linter.unusedVariables false
set_option maxRecDepth 100000
namespace Go.Proofs.YteembinfgbapgaaGreat
open Go.RowKit
/-- what the out value holds, and that it can be written, while 'Zero' is called -/
structure CS (w0 w : World) (q : Nat) (bits : Int) (tx s s2 : ByteArray) (l n : Int) : Prop where
  v : VBox w w0.heap.size 12 bits tx
  t : FBox w (w0.heap.size + 1 + 1) s2 12 n
  r : VBox w (w0.heap.size + 1 + 1 + 1) 0 0 ⟨#[]⟩
  o : VBox w q 12 bits ⟨#[]⟩
  fr : ∀ i, w.frozen? ⟨w0.heap.size + 1 + 1 + 1, i, none⟩ = false
  fo : ∀ i, w.frozen? ⟨q, i, none⟩ = false
  hq : q < w.heap.size
theorem CS.below {w0 w w1 : World} {q : Nat} {bits : Int} {tx s s2 : ByteArray} {l n : Int} (h : CS w0 w q bits tx s s2 l n) (hb : Below w.heap.size w w1) : CS w0 w1 q bits tx s s2 l n := by
  have hr := World.block_lt_of_cell? w _ h.r.1
  exact ⟨h.v.below hb, h.t.below hb, h.r.below hb, h.o.below hb, fun i => ((bcell hb).2 _ i hr).trans (h.fr i), fun i => ((bcell hb).2 _ i h.hq).trans (h.fo i), by have := hb.size; have := h.hq; omega⟩
end Go.Proofs.YteembinfgbapgaaGreat
/- Layers 7 and 8 of the heap, tables, first part: rows of moves; what a right table is. -/
set_option linter.unusedSimpArgs false
set_option linter.unusedVariables false
set_option maxRecDepth 100000
namespace Go.Proofs.YteembinfgbapgaaGreat
open Go.RowKit

/-- where a field comes from -/
structure Mv where
  f : Int
  d : Vl
/-- a table -/
structure Tb where
  o : List Fd
  n : List Fd
  m : List Mv
instance : DecidableEq Vl := fun a b => decidable_of_iff (a.k = b.k ∧ a.b = b.b ∧ a.t = b.t) (by cases a; cases b; simp)
instance : DecidableEq Mv := fun a b => decidable_of_iff (a.f = b.f ∧ a.d = b.d) (by cases a; cases b; simp)
/-- moves, as memory holds them -/
def cellsM (ms : List Mv) : List Value := ms.flatMap fun m => [.int .i64 m.f, .int .i64 m.d.k, .int .u64 m.d.b, .string m.d.t]
theorem cellsM_append (a b : List Mv) : cellsM (a ++ b) = cellsM a ++ cellsM b := by simp [cellsM]
theorem cellsM_get {ms : List Mv} {i : Nat} {m : Mv} (h : ms[i]? = some m) : (cellsM ms)[i * 4]? = some (.int .i64 m.f) ∧ (cellsM ms)[i * 4 + 1]? = some (.int .i64 m.d.k) ∧ (cellsM ms)[i * 4 + 2]? = some (.int .u64 m.d.b) ∧ (cellsM ms)[i * 4 + 3]? = some (.string m.d.t) := by
  induction ms generalizing i with
  | nil => simp at h
  | cons g r ih =>
    cases i with
    | zero => simp at h; subst h; exact ⟨rfl, rfl, rfl, rfl⟩
    | succ i =>
      have := ih (i := i) (by simpa using h)
      rw [cellsM, List.flatMap_cons]
      refine ⟨?_, ?_, ?_, ?_⟩
      · rw [show (i + 1) * 4 = i * 4 + 4 by omega, List.getElem?_append_right (by simp)]; simpa [cellsM] using this.1
      · rw [show (i + 1) * 4 + 1 = i * 4 + 1 + 4 by omega, List.getElem?_append_right (by simp)]; simpa [cellsM] using this.2.1
      · rw [show (i + 1) * 4 + 2 = i * 4 + 2 + 4 by omega, List.getElem?_append_right (by simp)]; simpa [cellsM] using this.2.2.1
      · rw [show (i + 1) * 4 + 3 = i * 4 + 3 + 4 by omega, List.getElem?_append_right (by simp)]; simpa [cellsM] using this.2.2.2
theorem Rd.mv {w : World} {A : Option Addr} {ms : List Mv} (h : Rd w A (cellsM ms)) {k : Nat} {m : Mv} (hm : ms[k]? = some m) : ∃ ad, A = some ad ∧ w.cell? (ad.add (k * 4)) = some (.int .i64 m.f) ∧ w.cell? ⟨(ad.add (k * 4)).block, (ad.add (k * 4)).off + (0 + 1), none⟩ = some (.int .i64 m.d.k) ∧
    w.cell? ⟨(ad.add (k * 4)).block, (ad.add (k * 4)).off + (1 + 1), none⟩ = some (.int .u64 m.d.b) ∧ w.cell? ⟨(ad.add (k * 4)).block, (ad.add (k * 4)).off + (2 + 1), none⟩ = some (.string m.d.t) := by
  obtain ⟨g0, g1, g2, g3⟩ := cellsM_get hm
  obtain ⟨ad, rfl, h0⟩ := h.at g0
  obtain ⟨_, e1, h1⟩ := h.at g1
  obtain ⟨_, e2, h2⟩ := h.at g2
  obtain ⟨_, e3, h3⟩ := h.at g3
  cases e1; cases e2; cases e3
  rw [add_part _ _ 0] at h1
  rw [add_part _ _ 1] at h2
  rw [add_part _ _ 2] at h3
  exact ⟨ad, rfl, h0, h1, h2, h3⟩
/-- may a move be, of a table's fields? -/
def okMv (o : List Fd) (g : Fd) (m : Mv) : Bool :=
  if m.f = -1 then rightB m.d.k m.d.b m.d.t g.k g.l && (decide (g.k ≠ 11) || decide (m.d.b = 0))
  else decide (0 ≤ m.f) && (match o[m.f.toNat]? with | none => false | some f => decide (m.d = Vl.z) && castsB f.k f.l g.k g.l)
def okAt (t : Tb) (k : Nat) : Bool := match t.m[k]?, t.n[k]? with | some m, some g => okMv t.o g m | _, _ => false
/-- may a table be? -/
def rightT (t : Tb) : Bool := rightF t.o && rightF t.n && decide (t.m.length = t.n.length) && decide (∀ k, k < t.m.length → okAt t k = true)
/-- the table that changes nothing -/
def keepT (l : List Fd) : Tb := if rightF l = true then ⟨l, l, (List.range l.length).map fun k : Nat => ⟨(k : Int), Vl.z⟩⟩ else ⟨[], [], []⟩
/-- the numbers of moves are words -/
def MvW (ms : List Mv) : Prop := ∀ m ∈ ms, 0 ≤ m.d.b ∧ m.d.b < 18446744073709551616
/-- a table, as a value, and what it points to -/
def TV (w : World) (v : Value) (t : Tb) : Prop := ∃ A c B d C e, v = .agg #[.slice A t.o.length c, .slice B t.n.length d, .slice C t.m.length e] ∧ Rd w A (cellsF t.o) ∧ Rd w B (cellsF t.n) ∧ Rd w C (cellsM t.m)
theorem TV.below {w w1 : World} {v : Value} {t : Tb} (h : TV w v t) (hb : Below w.heap.size w w1) : TV w1 v t := by
  obtain ⟨A, c, B, d, C, e, hv, h0, h1, h2⟩ := h
  exact ⟨A, c, B, d, C, e, hv, h0.below hb, h1.below hb, h2.below hb⟩
end Go.Proofs.YteembinfgbapgaaGreat
/- Layers 7 and 8 of the heap, tables, second part: whether two tables are alike. -/
set_option linter.unusedSimpArgs false
set_option linter.unusedVariables false
set_option maxRecDepth 100000
namespace Go.Proofs.YteembinfgbapgaaGreat
open Go.RowKit

def TBox (w : World) (b : Nat) (x y z : Value) : Prop := w.cell? ⟨b, 0, none⟩ = some x ∧ w.cell? ⟨b, 1, none⟩ = some y ∧ w.cell? ⟨b, 2, none⟩ = some z
theorem TBox.below {w w1 : World} {b : Nat} {x y z : Value} (h : TBox w b x y z) (hb : Below w.heap.size w w1) : TBox w1 b x y z := ⟨cell_below (B := 0) hb h.1, cell_below (B := 0) hb h.2.1, cell_below (B := 0) hb h.2.2⟩
theorem TBox.new (w : World) (x y z : Value) (T : TypeId) : TBox (w.alloc (.cells #[x, y, z] T)) w.heap.size x y z := ⟨cell_new _ _ _ _ _ rfl, cell_new _ _ _ _ _ rfl, cell_new _ _ _ _ _ rfl⟩
end Go.Proofs.YteembinfgbapgaaGreat
