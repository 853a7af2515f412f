/- Merged out of: Mf Mg Mh Mi Ko Wc. -/
import Derived.Test.YtehcpjodkadfnaaGreatUn
import Derived.Test.YtehcpjodkadfnaaGreatUm
/- Layers 7 and 8 of the heap, tables, sixth part: whether a table may be, as the program asks it. -/
set_option linter.unusedSimpArgs false
set_option linter.unusedVariables false
set_option maxRecDepth 100000
namespace Go.Proofs.YtehcpjodkadfnaaGreat
open Go.RowKit

set_option maxHeartbeats 4000000 in
theorem TRight_m (t : Tb) (Ao An Am : Option Addr) (co cn cm no nn nm : Nat) (hno : t.o.length = no) (hnn : t.n.length = nn) (hnm : t.m.length = nm) (l0 : no ≤ 9223372036854775807) (l1 : nn ≤ 9223372036854775807) (l2 : nm ≤ 9223372036854775807) (hw : MvW t.m)
    (w : World) (ao : Rd w Ao (cellsF t.o)) (an : Rd w An (cellsF t.n)) (am : Rd w Am (cellsM t.m)) :
    Calls Tryz.prog 24 #[.agg #[.slice Ao no co, .slice An nn cn, .slice Am nm cm]] w fun e w' => e = .returned (.bool (rightT t)) ∧ Below w.heap.size w w' := by
  have hmf : ∀ (fn : Fn) (first cap : Array Value) (w : World), (Instr.makeFunc fn first cap).run Tryz.prog w = .ok (.func fn first cap) w := fun _ _ _ _ => rfl
  obtain ⟨r, hr⟩ : ∃ r, rightT t = r := ⟨_, rfl⟩
  obtain ⟨r1, hr1⟩ : ∃ r, rightF t.o = r := ⟨_, rfl⟩
  obtain ⟨r2, hr2⟩ : ∃ r, rightF t.n = r := ⟨_, rfl⟩
  have hrr : r = (r1 && r2 && decide (nm = nn) && decide (∀ k, k < nm → okAt t k = true)) := by rw [← hr, ← hr1, ← hr2, ← hnm, ← hnn, rightT]
  rw [hr]
  have hb1 := below_new (w := w) (.cells #[.slice Ao no co, .slice An nn cn, .slice Am nm cm] 36)
  have O := TBox.new w (.slice Ao no co) (.slice An nn cn) (.slice Am nm cm) 36
  have HB := hb1
  replace ao := ao.below hb1
  replace an := an.below hb1
  replace am := am.below hb1
  obtain ⟨O0, O1, O2⟩ := id O
  have HR1 := Lib.hid hr1
  have HR2 := Lib.hid hr2
  have HRR := Lib.hid hrr
  have HNO := Lib.hid hno
  have HNN := Lib.hid hnn
  have HNM := Lib.hid hnm
  have HW := Lib.hid hw
  have tok1 := True.intro
  clear hr hr1 hr2 hrr hno hnn hnm hb1 hw
  cases r1
  · obtain rfl : r = false := by rw [HRR.out]; rfl
    go_enter Tryz.func24, Tryz.ntmps24
    go_wp2_with (go_at_call 21; refine (Right_m Ao co no t.o HNO.out false HR1.out _ ao l0).mono ?_; rintro e wM ⟨rfl, hb⟩; replace HB := HB.trans (hb.mono HB.size); replace O := O.below hb; obtain ⟨O0, O1, O2⟩ := id O; clear hb)
    go_ret
    exact ⟨rfl, HB⟩
  cases r2
  · obtain rfl : r = false := by rw [HRR.out]; rfl
    go_enter Tryz.func24, Tryz.ntmps24
    go_wp2_with (first
      | (have _t := tok1; go_at_call 21; refine (Right_m Ao co no t.o HNO.out true HR1.out _ ao l0).mono ?_; rintro e wM ⟨rfl, hb⟩; replace HB := HB.trans (hb.mono HB.size); replace an := an.below hb; replace am := am.below hb; replace O := O.below hb; obtain ⟨O0, O1, O2⟩ := id O; clear hb tok1; have tok2 := True.intro)
      | (have _t := tok2; go_at_call 21; refine (Right_m An cn nn t.n HNN.out false HR2.out _ an l1).mono ?_; rintro e wM ⟨rfl, hb⟩; replace HB := HB.trans (hb.mono HB.size); replace O := O.below hb; obtain ⟨O0, O1, O2⟩ := id O; clear hb tok2; have tok3 := True.intro))
    go_ret
    exact ⟨rfl, HB⟩
  by_cases hlen : nm = nn
  · have hz : ((nm : Int) != (nn : Int)) = false := by rw [hlen]; simp
    have HL := Lib.hid hlen
    clear hlen
    go_enter Tryz.func24, Tryz.ntmps24
    go_wp2_with (first
      | (have _t := tok1; go_at_call 21; refine (Right_m Ao co no t.o HNO.out true HR1.out _ ao l0).mono ?_; rintro e wM ⟨rfl, hb⟩; replace HB := HB.trans (hb.mono HB.size); replace ao := ao.below hb; replace an := an.below hb; replace am := am.below hb; replace O := O.below hb; obtain ⟨O0, O1, O2⟩ := id O; clear hb tok1; have tok2 := True.intro)
      | (have _t := tok2; go_at_call 21; refine (Right_m An cn nn t.n HNN.out true HR2.out _ an l1).mono ?_; rintro e wM ⟨rfl, hb⟩; replace HB := HB.trans (hb.mono HB.size); replace ao := ao.below hb; replace an := an.below hb; replace am := am.below hb; replace O := O.below hb; obtain ⟨O0, O1, O2⟩ := id O; clear hb tok2; have tok3 := True.intro))
    rename World => W1
    have ao0 := ao
    have an0 := an
    have am0 := am
    have O' := O
    have HB0 := HB
    clear ao an am O HB
    go_loopw [4, 28] (fun _ i wr => ∃ k : Nat, k ≤ nm ∧ i = .int .i64 k ∧ Below w.heap.size w wr ∧ Rd wr Ao (cellsF t.o) ∧ Rd wr An (cellsF t.n) ∧ Rd wr Am (cellsM t.m) ∧ TBox wr w.heap.size (.slice Ao no co) (.slice An nn cn) (.slice Am nm cm) ∧ Hid (∀ j, j < k → okAt t j = true)) (fun _ i _ => nm - (intOf i).toNat)
    case atStart => exact ⟨0, by omega, rfl, HB0, ao0, an0, am0, O', Lib.hid (fun j hj => by omega)⟩
    case round =>
      obtain ⟨k, hk, rfl, HB, ao, an, am, O, hall⟩ := hrel
      clear HB0 ao0 an0 am0 O' O0 O1 O2
      obtain ⟨O0, O1, O2⟩ := id O
      by_cases hlt : k < nm
      · obtain ⟨x, hx⟩ : ∃ x, t.m[k]? = some x := ⟨_, List.getElem?_eq_getElem (by rw [HNM.out]; exact hlt)⟩
        have hln : k < nn := by have := HL.out; omega
        obtain ⟨g, hg⟩ : ∃ y, t.n[k]? = some y := ⟨_, List.getElem?_eq_getElem (by rw [HNN.out]; exact hln)⟩
        have hat : okAt t k = okMv t.o g x := by simp [okAt, hx, hg]
        obtain ⟨b0, b1⟩ := HW.out x (List.mem_of_getElem? hx)
        obtain ⟨s, hs⟩ : ∃ s, okMv t.o g x = s := ⟨_, rfl⟩
        have HX := Lib.hid hx
        have HG := Lib.hid hg
        have HS := Lib.hid hs
        have HAT := Lib.hid (hat.trans hs)
        clear hx hg hat hs
        cases s
        · obtain rfl : r = false := by
            have hn : ¬ ∀ j, j < nm → okAt t j = true := fun h => by have := h k hlt; rw [HAT.out] at this; cases this
            rw [HRR.out, decide_eq_false hn]; simp
          go_wp2_with (go_at_call 48; refine (Right1_is w.heap.size t Ao An Am co cn cm no nn nm HNO.out HNN.out HNM.out l0 k x g HX.out HG.out b0 b1 _ O ao an am).mono ?_; rintro e wM ⟨rfl, hb⟩; rw [HS.out]; replace HB := HB.trans (hb.mono HB.size); clear hb)
          go_ret
          exact ⟨rfl, HB⟩
        · have hall2 : Hid (∀ j, j < k + 1 → okAt t j = true) := Lib.hid (fun j hj => by
            rcases (by omega : j < k ∨ j = k) with h | rfl
            · exact hall.out j h
            · exact HAT.out)
          go_wp2_with (go_at_call 48; refine (Right1_is w.heap.size t Ao An Am co cn cm no nn nm HNO.out HNN.out HNM.out l0 k x g HX.out HG.out b0 b1 _ O ao an am).mono ?_; rintro e wM ⟨rfl, hb⟩; rw [HS.out]; replace HB := HB.trans (hb.mono HB.size); replace ao := ao.below hb; replace an := an.below hb; replace am := am.below hb; replace O := O.below hb; clear hb)
          go_roundw
          case rel => exact ⟨k + 1, by omega, by go_num, HB, ao, an, am, O, hall2⟩
          case measure => simp [intOf]; omega
      · obtain rfl : k = nm := by omega
        obtain rfl : r = true := by
          rw [HRR.out, decide_eq_true HL.out, decide_eq_true hall.out]; rfl
        go_wp2
        go_ret
        exact ⟨rfl, HB⟩
  · have hz : ((nm : Int) != (nn : Int)) = true := by simp; omega
    obtain rfl : r = false := by rw [HRR.out, decide_eq_false hlen]; rfl
    clear hlen
    go_enter Tryz.func24, Tryz.ntmps24
    go_wp2_with (first
      | (have _t := tok1; go_at_call 21; refine (Right_m Ao co no t.o HNO.out true HR1.out _ ao l0).mono ?_; rintro e wM ⟨rfl, hb⟩; replace HB := HB.trans (hb.mono HB.size); replace an := an.below hb; replace am := am.below hb; replace O := O.below hb; obtain ⟨O0, O1, O2⟩ := id O; clear hb tok1; have tok2 := True.intro)
      | (have _t := tok2; go_at_call 21; refine (Right_m An cn nn t.n HNN.out true HR2.out _ an l1).mono ?_; rintro e wM ⟨rfl, hb⟩; replace HB := HB.trans (hb.mono HB.size); replace O := O.below hb; obtain ⟨O0, O1, O2⟩ := id O; clear hb tok2; have tok3 := True.intro))
    go_ret
    exact ⟨rfl, HB⟩
end Go.Proofs.YtehcpjodkadfnaaGreat
/- Layers 7 and 8 of the heap, tables, seventh part: the table that changes nothing, as the document makes it. -/
set_option linter.unusedSimpArgs false
set_option linter.unusedVariables false
set_option maxRecDepth 100000
namespace Go.Proofs.YtehcpjodkadfnaaGreat
open Go.RowKit

end Go.Proofs.YtehcpjodkadfnaaGreat
/- Layers 7 and 8 of the heap, tables, eighth part: the table that changes nothing, as the document makes it, of a right row. -/
set_option linter.unusedSimpArgs false
set_option linter.unusedVariables false
set_option maxRecDepth 100000
namespace Go.Proofs.YtehcpjodkadfnaaGreat
open Go.RowKit

/-- the moves that leave the first fields where they are -/
def kM (k : Nat) : List Mv := (List.range k).map fun k : Nat => ⟨(k : Int), Vl.z⟩
theorem kM_succ (k : Nat) : kM (k + 1) = kM k ++ [⟨(k : Int), Vl.z⟩] := by simp [kM, List.range_succ]
theorem kM_length (k : Nat) : (kM k).length = k := by simp [kM]
theorem news4 (w : World) (a b c d : Value) (T : TypeId) : ∀ j x, [a, b, c, d][j]? = some x → (w.alloc (.cells #[a, b, c, d] T)).cell? ((⟨w.heap.size, 0, none⟩ : Addr).add j) = some x := by
  intro j x hj
  have := rd_new w [a, b, c, d] T (by simp)
  obtain ⟨ad, e, h⟩ := this
  cases e
  exact h j x hj
theorem obox_set {w : World} {b : Nat} {cs : List Value} {T : TypeId} (h : OBox w b cs T) (j : Nat) (v : Value) : OBox (w.setCell ⟨b, j, none⟩ v) b (cs.set j v) T := by
  obtain ⟨hlt, hk⟩ := Array.getElem?_eq_some_iff.1 h
  show (w.heap.modify b _)[b]? = _
  rw [Array.getElem?_eq_getElem (by rw [Array.size_modify]; exact hlt), Array.getElem_modify_self, hk]
  simp
end Go.Proofs.YtehcpjodkadfnaaGreat
/- Layers 7 and 8 of the heap, tables, ninth part: the table that changes nothing, as the program makes it. -/
set_option linter.unusedSimpArgs false
set_option linter.unusedVariables false
set_option maxRecDepth 100000
namespace Go.Proofs.YtehcpjodkadfnaaGreat
open Go.RowKit

set_option maxHeartbeats 4000000 in
theorem TSame_no (A : Option Addr) (c m : Nat) (l : List Fd) (hm : l.length = m) (hr : rightF l = false) (w : World) (hA : Rd w A (cellsF l)) (hl : m ≤ 9223372036854775807) :
    Calls Tryz.prog 22 #[.slice A m c] w fun e w' => e = .returned (.agg #[.slice none 0 0, .slice none 0 0, .slice none 0 0]) ∧ Below w.heap.size w w' := by
  have hb1 := below_new (w := w) (.cells #[.slice none 0 0, .slice none 0 0, .slice none 0 0] 36)
  have O := OBox.new w [.slice none 0 0, .slice none 0 0, .slice none 0 0] 36
  have HB := hb1
  replace hA := hA.below hb1
  have HM := Lib.hid hm
  have HR := Lib.hid hr
  clear hm hr hb1
  go_enter Tryz.func22, Tryz.ntmps22
  go_wp2_with (go_at_call 21; refine (Right_m A c m l HM.out false HR.out _ hA hl).mono ?_; rintro e wM ⟨rfl, hb⟩; replace HB := HB.trans (hb.mono HB.size); obtain ⟨k0, k1, k2, f0, f1, f2⟩ := (O.below hb).f3; clear hb)
  refine bodyPost_ret (v := .agg #[.slice none 0 0, .slice none 0 0, .slice none 0 0]) (by simp [results, Tryz.results22, go_sem, *]; done) rfl ⟨rfl, ?_⟩
  (repeat (first | exact HB | refine Below.setCell ?_ (by dsimp only; omega) _ | refine Below.alloc ?_ (by have hs_ := HB.size; first | (simp; done) | (simp; omega) | omega) _ | apply Below.drew))
end Go.Proofs.YtehcpjodkadfnaaGreat
/- Layer 5's laws: numbers that a float64 holds. -/
set_option linter.unusedSimpArgs false
set_option linter.unusedVariables false
set_option maxRecDepth 100000
namespace Go.Proofs.YtehcpjodkadfnaaGreat
open Go.RowKit

theorem fB_parts (s : Bool) (m : Nat) (h : m ≠ 0) (hL : m.log2 ≤ 1000) (he : exact53 m) : fld (fBits s m) = m.log2 + 1023 ∧ frc (fBits s m) = sgn m - 4503599627370496 ∧ ngB (fBits s m) = s := by
  have hb := sgn_bd m h
  have hr := rup_exact he
  unfold fBits
  rw [if_neg h, hr]
  simp only [Bool.toNat_false, Nat.add_zero]
  generalize hq : m.log2 = L at *
  generalize sgn m = g at *
  obtain ⟨t, rfl⟩ : ∃ t, g = t + 4503599627370496 := ⟨g - 4503599627370496, by omega⟩
  cases s
  · simp only [Bool.false_eq_true, if_false]
    unfold fld frc ngB
    refine ⟨by omega, by omega, by simp; omega⟩
  · simp only [if_true]
    unfold fld frc ngB
    refine ⟨by omega, by omega, by simp⟩
theorem exact_small {m : Nat} (h0 : m ≠ 0) (h : m ≤ 9007199254740992) : exact53 m ∧ m.log2 ≤ 53 := by
  have hl : m.log2 ≤ 53 := by
    have := (Nat.log2_lt (n := m) (k := 54) h0).2 (by omega)
    omega
  refine ⟨?_, hl⟩
  unfold exact53
  rcases (by omega : m.log2 ≤ 52 ∨ m.log2 = 53) with h1 | h1
  · rw [show m.log2 - 52 = 0 by omega]; omega
  · have := (Nat.le_log2 (n := m) (k := 53) h0).1 (by omega)
    have : m = 9007199254740992 := by omega
    subst this
    rw [h1]
theorem wholeZ_small (s : Bool) (m : Nat) (h : m ≤ 9007199254740992) : wholeZ (fBits s m) = if s = true then -(m : Int) else (m : Int) := by
  by_cases h0 : m = 0
  · subst h0
    have c0 : ∀ e : Int, e = -1075 → cutN (4503599627370496 + 0) e = 0 := fun e he => by
      obtain ⟨J, hJ⟩ : ∃ J, (-e).toNat = J := ⟨_, rfl⟩
      have h53 : 53 ≤ J := by omega
      unfold cutN
      rw [hJ, show e.toNat = 0 by omega, Nat.pow_zero, Nat.mul_one]
      exact Nat.div_eq_of_lt (Nat.lt_of_lt_of_le (show 4503599627370496 + 0 < 2 ^ 53 by decide) (Nat.pow_le_pow_right (by decide) h53))
    have e1 : fld (fBits s 0) = 0 := by cases s <;> rfl
    have e2 : frc (fBits s 0) = 0 := by cases s <;> rfl
    unfold wholeZ
    rw [e1, e2, c0 _ (by omega), if_neg (by omega), if_neg (by omega)]
    simp
  · obtain ⟨he, hl⟩ := exact_small h0 h
    obtain ⟨e1, e2, e3⟩ := fB_parts s m h0 (by omega) he
    have hb := sgn_bd m h0
    unfold wholeZ
    rw [e1, e2, e3, if_neg (by omega), if_neg (by omega), show 4503599627370496 + (sgn m - 4503599627370496) = sgn m by omega,
      show ((m.log2 + 1023 : Nat) : Int) - 1075 = (m.log2 : Int) - 52 by omega, cut_exact m he]

/-- a number's bits, as a float64 -/
def floatZ (n : Int) : Nat := if n < 0 then fBits true (-n).toNat else fBits false n.toNat
theorem floatZ_lt (n : Int) (h0 : -9007199254740992 ≤ n) (h1 : n ≤ 9007199254740992) : floatZ n < 18446744073709551616 := by
  unfold floatZ
  split
  · refine fBits_lt _ _ ?_
    by_cases hz : (-n).toNat = 0
    · rw [hz]; decide
    · have := (exact_small hz (by omega)).2; omega
  · refine fBits_lt _ _ ?_
    by_cases hz : n.toNat = 0
    · rw [hz]; decide
    · have := (exact_small hz (by omega)).2; omega
theorem wholeZ_float (n : Int) (h0 : -9007199254740992 ≤ n) (h1 : n ≤ 9007199254740992) : wholeZ (floatZ n) = n := by
  unfold floatZ
  split
  · rw [wholeZ_small _ _ (by omega), if_pos rfl]; omega
  · rw [wholeZ_small _ _ (by omega), if_neg (by simp)]; omega
theorem castZ_8 (n : Int) (h0 : -9007199254740992 ≤ n) (h1 : n ≤ 9007199254740992) : castZ (n % 18446744073709551616) 8 10 = floatZ n := by
  unfold castZ floatZ
  rw [if_neg (by simp [btw]), if_pos (by simp [btw])]
  split
  · rw [if_pos (by omega)]; congr 2; omega
  · rw [if_neg (by omega)]; congr 2; omega
theorem castZ_10 (n : Int) (h0 : -9007199254740992 ≤ n) (h1 : n ≤ 9007199254740992) : castZ (floatZ n : Int) 10 8 = n % 18446744073709551616 := by
  unfold castZ
  rw [if_neg (by simp), if_neg (by simp), if_pos (by simp), Int.toNat_natCast, wholeZ_float n h0 h1]
theorem right_8 (b : Int) (h0 : 0 ≤ b) (h1 : b < 18446744073709551616) : rightB 8 b ⟨#[]⟩ 8 0 = true := by
  have e : fitB b 8 0 = true := by
    unfold fitB
    rw [if_neg (by decide), if_neg (by decide), show longZ 8 0 = 8 by decide, show btw 5 8 8 = true by decide]
    simp [fitsB, widthB, signZ_8 b h0 h1]
  simp only [rightB, e, Bool.and_true]
  decide
theorem right_10 (b : Int) : rightB 10 b ⟨#[]⟩ 10 0 = true := by
  have e : fitB b 10 0 = true := by simp [fitB]
  simp only [rightB, e, Bool.and_true]
  decide
theorem castV_810 (n : Int) (h0 : -9007199254740992 ≤ n) (h1 : n ≤ 9007199254740992) : castV 8 (n % 18446744073709551616) ⟨#[]⟩ 8 0 10 0 = .agg #[.int .i64 10, .int .u64 (floatZ n : Int), .string ⟨#[]⟩] ∧ castE 8 (n % 18446744073709551616) ⟨#[]⟩ 8 0 10 0 = 0 := by
  have hr := right_8 (n % 18446744073709551616) (by omega) (by omega)
  rw [castV, castE, hr, show castsB 8 0 10 0 = true by decide, castZ_8 n h0 h1]
  simp [castT]
theorem castV_108 (n : Int) (h0 : -9007199254740992 ≤ n) (h1 : n ≤ 9007199254740992) : castV 10 (floatZ n : Int) ⟨#[]⟩ 10 0 8 0 = .agg #[.int .i64 8, .int .u64 (n % 18446744073709551616), .string ⟨#[]⟩] ∧ castE 10 (floatZ n : Int) ⟨#[]⟩ 10 0 8 0 = 0 := by
  rw [castV, castE, right_10, show castsB 10 0 8 0 = true by decide, castZ_10 n h0 h1]
  simp [castT]
end Go.Proofs.YtehcpjodkadfnaaGreat
/- KindCastRight, walked: it tells true. -/
set_option linter.unusedSimpArgs false
set_option linter.unusedVariables false
set_option maxRecDepth 100000
namespace Go.Proofs.YtehcpjodkadfnaaGreat
open Go.RowKit

theorem fBits_lt64 (s : Bool) (m : Nat) (h : m < 18446744073709551616) : fBits s m < 18446744073709551616 := by
  refine fBits_lt _ _ ?_
  by_cases h0 : m = 0
  · subst h0; decide
  · have := (Nat.log2_lt (n := m) (k := 64) h0).2 (by omega); omega
theorem castZ_bd (bits k k2 : Int) (h0 : 0 ≤ bits) (h1 : bits < 18446744073709551616) : 0 ≤ castZ bits k k2 ∧ castZ bits k k2 < 18446744073709551616 := by
  unfold castZ
  split
  · have := fBits_lt64 false bits.toNat (by omega); omega
  · split
    · split
      · have := fBits_lt64 true (18446744073709551616 - bits).toNat (by omega); omega
      · have := fBits_lt64 false bits.toNat (by omega); omega
    · split <;> omega
theorem sizeZ_val {k : Int} (h : mayB k 0 = true) (hk : ¬ k = 12) : longZ k 0 = sizeZ k := by
  rw [longZ, if_pos h, if_neg hk]
/-- what fits a plain or signed field of some width fits one that is wider -/
theorem fits_up {n w w2 : Int} {s s2 : Bool} (h0 : 0 ≤ n) (h1 : n < 18446744073709551616) (hw2 : widthB w2 = true) (hlt : w < w2) (hs : s = true → s2 = true) (h : fitsB n w s = true) : fitsB n w2 s2 = true := by
  simp only [fitsB, Bool.and_eq_true] at h ⊢
  refine ⟨hw2, ?_⟩
  obtain ⟨hw, h⟩ := h
  have hc := width_cases hw
  have hc2 := width_cases hw2
  have key : (s2 = true ∧ signZ n w2 = n) ∨ (s2 = false ∧ n < topZ w2) := by
    cases s2
    · have : s = false := by cases s; rfl; exact absurd (hs rfl) (by simp)
      subst this
      simp at h
      refine .inr ⟨rfl, ?_⟩
      rcases hc with rfl | rfl | rfl | rfl <;> rcases hc2 with rfl | rfl | rfl | rfl <;> simp [topZ] at h ⊢ <;> omega
    · refine .inl ⟨rfl, ?_⟩
      cases s
      · simp at h
        rcases hc with rfl | rfl | rfl | rfl <;> rcases hc2 with rfl | rfl | rfl | rfl <;> simp [topZ] at h <;> first | omega | (first | rw [signZ_arith2 n h0 h1] | rw [signZ_arith4 n h0 h1] | rw [signZ_8 n h0 h1]) <;> (try split) <;> omega
      · simp at h
        rcases hc with rfl | rfl | rfl | rfl <;> rcases hc2 with rfl | rfl | rfl | rfl <;> first | omega | (first | rw [signZ_arith2 n h0 h1] | rw [signZ_arith4 n h0 h1] | rw [signZ_8 n h0 h1]) <;> (first | rw [signZ_arith1 n h0 h1] at h | rw [signZ_arith2 n h0 h1] at h | rw [signZ_arith4 n h0 h1] at h | skip) <;> (repeat' split at h) <;> (try split) <;> omega
  rcases key with ⟨rfl, h⟩ | ⟨rfl, h⟩
  · simpa using h
  · simpa using h
theorem long_width {k : Int} (h : mayB k 0 = true) (hk : ¬ k = 12) : widthB (longZ k 0) = true := by
  have := long_cases h hk
  simp [widthB]; omega
theorem bit_fits {n w : Int} {s : Bool} (h0 : 0 ≤ n) (h : n ≤ 1) (hw : widthB w = true) : fitsB n w s = true := by
  simp only [fitsB, Bool.and_eq_true]
  refine ⟨hw, ?_⟩
  have hc := width_cases hw
  have hn : n = 0 ∨ n = 1 := by omega
  cases s
  · simp
    rcases hc with rfl | rfl | rfl | rfl <;> simp [topZ] <;> omega
  · simp
    rcases hn with rfl | rfl <;> rcases hc with rfl | rfl | rfl | rfl <;> decide
theorem long_may {k l : Int} (h : ¬ longZ k l = 0) : mayB k l = true := by
  cases hm : mayB k l
  · exact absurd (by rw [longZ, hm]; rfl) h
  · rfl
theorem cast_right {vk bits : Int} {tx : ByteArray} {k l k2 l2 : Int} (h0 : 0 ≤ bits) (h1 : bits < 18446744073709551616) (hr : rightB vk bits tx k l = true) (hc : castsB k l k2 l2 = true) :
    rightB k2 (castZ bits k k2) (castT tx k2 l2) k2 l2 = true ∧ ((castT tx k2 l2).size : Int) = l2 := by
  obtain ⟨hm, rfl, ht, hf⟩ := right_may hr
  clear hr
  have hm2 : mayB k2 l2 = true := by
    unfold castsB at hc
    split at hc
    · cases hc
    · rename_i hz
      exact long_may fun e => hz (.inr e)
  by_cases hk : k2 = 12
  · subst hk
    obtain ⟨rfl, -⟩ := casts_12 hc
    have hb := mayB_12 ▸ hm2
    have hb := btw_iff.1 hb
    have hs : ((castT tx 12 l2).size : Int) = l2 := by rw [castT, if_pos rfl, strL_size, padL_length]; omega
    refine ⟨?_, hs⟩
    have e : castZ bits 12 12 = bits := by simp [castZ]
    have hf' : fitB bits 12 l2 = true := by simpa [fitB] using hf
    rw [e]
    simp only [rightB, hm2, hs, hf', if_true, decide_true, Bool.and_true, Bool.true_and]
  · have hl2 : l2 = 0 := (mayB_of hm2 hk).1
    subst hl2
    have hT : castT tx k2 0 = ⟨#[]⟩ := by rw [castT, if_neg hk]
    rw [hT]
    refine ⟨?_, rfl⟩
    have goal : fitB (castZ bits vk k2) k2 0 = true → rightB k2 (castZ bits vk k2) ⟨#[]⟩ k2 0 = true := fun h => by
      simp only [rightB, hm2, h, decide_true, Bool.and_true, Bool.true_and, if_neg hk]
      rfl
    apply goal
    have hw2 := long_width hm2 hk
    by_cases h10 : k2 = 10 ∨ k2 = 11
    · rcases h10 with rfl | rfl <;> simp [fitB]
    · have hne : ¬ (k2 = 10 ∧ btw 1 vk 4 = true) := fun h => h10 (.inl h.1)
      have hne2 : ¬ (k2 = 10 ∧ btw 5 vk 8 = true) := fun h => h10 (.inl h.1)
      by_cases h8 : k2 = 8 ∧ vk = 10
      · obtain ⟨rfl, rfl⟩ := h8
        have e : castZ bits 10 8 = wholeZ bits.toNat % 18446744073709551616 := by simp [castZ]
        rw [e, fitB, if_neg (by decide), if_neg (by decide), show longZ 8 0 = 8 by decide, show btw 5 8 8 = true by decide]
        simp [fitsB, widthB, signZ_8 (wholeZ bits.toNat % 18446744073709551616) (by omega) (by omega)]
      · have e : castZ bits vk k2 = bits := by rw [castZ, if_neg hne, if_neg hne2, if_neg h8]
        rw [e]
        by_cases hkk : vk = k2
        · subst hkk
          have : l = 0 := (mayB_of hm hk).1
          subst this
          exact hf
        · unfold castsB at hc
          rw [if_neg hkk] at hc
          split at hc
          · cases hc
          · have h12 : ¬ vk = 12 := fun h => by
              subst h
              rw [if_neg (by decide), if_neg (by decide), if_neg (by decide)] at hc
              simp at hc
            obtain ⟨rfl, -⟩ := mayB_of hm h12
            split at hc
            · rename_i h9
              subst h9
              have hb1 : bits ≤ 1 := by simpa [fitB] using hf
              rw [fitB, if_neg hk]
              split
              · simpa using hb1
              · rw [bit_fits h0 hb1 hw2]; rfl
            · rename_i h9
              have hk9 : ¬ k2 = 9 := fun h => by
                subst h
                split at hc
                · simp [btw] at hc
                · split at hc
                  · simp [btw] at hc
                  · simp at hc
              have hd10 : decide (k2 = 10) = false := by simp; omega
              split at hc
              · rename_i h14
                have hb := btw_iff.1 h14
                rw [hd10, Bool.or_false, Bool.and_eq_true, decide_eq_true_eq] at hc
                have hf' : fitsB bits (longZ vk 0) (btw 5 vk 8) = true := by
                  rw [fitB, if_neg h12, if_neg h9] at hf
                  simpa [show ¬ vk = 10 by omega, show ¬ vk = 11 by omega] using hf
                have h5 : btw 5 vk 8 = false := by rw [btw_not]; omega
                rw [fitB, if_neg hk, if_neg hk9, fits_up h0 h1 hw2 hc.2 (by rw [h5]; simp) hf']; rfl
              · split at hc
                · rename_i h58
                  rw [hd10, Bool.or_false, Bool.and_eq_true, decide_eq_true_eq] at hc
                  have hb := btw_iff.1 h58
                  have hf' : fitsB bits (longZ vk 0) (btw 5 vk 8) = true := by
                    rw [fitB, if_neg h12, if_neg h9] at hf
                    simpa [show ¬ vk = 10 by omega, show ¬ vk = 11 by omega] using hf
                  rw [fitB, if_neg hk, if_neg hk9, fits_up h0 h1 hw2 hc.2 (by intro _; exact hc.1) hf']; rfl
                · simp at hc; omega
end Go.Proofs.YtehcpjodkadfnaaGreat
