/- The law SchemaMany: WHATEVER THE INPUT it tells true, it never panics, and the input reads as it did. Merged out of: Ud Ue Zm. -/
import Derived.Test.YteembinfgbapgaaGreatM29
import Derived.Test.YteembinfgbapgaaGreatRows
import Derived.Test.YteembinfgbapgaaGreatM01
import Derived.Test.YteembinfgbapgaaGreatM21
/- Layer 9's laws: a catalogue behind calls, with what lay there before; the example. -/
set_option linter.unusedSimpArgs false
set_option linter.unusedVariables false
set_option maxRecDepth 100000
namespace Go.Proofs.YteembinfgbapgaaGreat
open Go.RowKit Go.Lib Go.Maps

/-- all that lay there before is as it was, and no block of it is the catalogue's -/
structure Low (w W : World) (mp : Nat) (E : List En) : Prop where
  b : Below w.heap.size w W
  u : ∀ g, g < w.heap.size → Unowned E mp g
theorem Low.next {w W W' : World} {cp mp : Nat} {E E' : List En} (h : Low w W mp E) (hf : CatFr cp mp E E' W W') : Low w W' mp E' := by
  have hz := h.b.size
  exact ⟨⟨hf.os.trans h.b.os, hf.tape.trans h.b.tape, hf.output.trans h.b.output, Nat.le_trans hz hf.size, fun g hg => (hf.block g (by omega) (h.u g hg)).trans (h.b.block g hg)⟩, fun g hg => hf.new g (by omega) (h.u g hg)⟩
theorem Low.below {w W W' : World} {mp : Nat} {E : List En} (h : Low w W mp E) (hb : Below W.heap.size W W') : Low w W' mp E := ⟨h.b.trans (hb.mono h.b.size), h.u⟩
/-- a catalogue of some types -/
def ASt (w : World) (cp mp : Nat) (D : List Ty) (W : World) : Prop := ∃ E es clock, E.map (·.y) = D ∧ CatIs 89 80 W cp mp E es clock ∧ Low w W mp E ∧ CatOk D
/-- rows of strings, and of two numbers and more, stay -/
def Kp (W W' : World) : Prop := ∀ A cs, Rd W A cs → Solid cs → Rd W' A cs
theorem Kp.of {W W' : World} (h : Below W.heap.size W W') : Kp W W' := fun _ _ hA _ => hA.below h
theorem Kp.trans {W W' W'' : World} (h : Kp W W') (h' : Kp W' W'') : Kp W W'' := fun A cs hA hs => h' A cs (h A cs hA hs) hs
theorem ASt.below {w W W' : World} {cp mp : Nat} {D : List Ty} (h : ASt w cp mp D W) (hb : Below W.heap.size W W') : ASt w cp mp D W' := by
  obtain ⟨E, es, k, h1, h2, h3, h4⟩ := h
  exact ⟨E, es, k, h1, h2.below hb, h3.below hb, h4⟩
theorem ASt.b {w W : World} {cp mp : Nat} {D : List Ty} (h : ASt w cp mp D W) : Below w.heap.size w W := by
  obtain ⟨E, es, k, h1, h2, h3, h4⟩ := h
  exact h3.b
theorem ASt.to {w W W' : World} {cp mp : Nat} {E : List En} {es : List MapEntry} {clock : Nat} {D : List Ty} (hc : CatIs 89 80 W cp mp E es clock) (hl : Low w W mp E) (hk : CatOk D) (h : CatTo cp mp E W D W') : ASt w cp mp D W' ∧ Kp W W' := by
  obtain ⟨E', es', k', h1, h2, h3⟩ := h
  exact ⟨⟨E', es', k', h1, h2, hl.next h3, hk⟩, fun A cs hA hs => h3.solid hc hA hs⟩
theorem New_a (w W : World) (hb : Below w.heap.size w W) : Calls Tryz.prog 12 #[] W fun e w' => ∃ cp mp, e = .returned (.pointer (some ⟨cp, 0, none⟩)) ∧ ASt w cp mp [] w' ∧ Below W.heap.size W w' := by
  refine (New_cat W).mono ?_
  rintro e w' ⟨rfl, hc, hb2⟩
  have hz := hb.size
  exact ⟨_, _, rfl, ⟨[], [], 0, rfl, hc, ⟨hb.trans (hb2.mono hz), fun g hg => ⟨by omega, fun d hd => by cases hd⟩⟩, CatOk.nil⟩, hb2⟩
theorem Define_a {w W : World} {cp mp : Nat} {D : List Ty} (h : ASt w cp mp D W) {nm : ByteArray} (hn : nm.size ≤ maxLen) (A : Option Addr) (cA m : Nat) (fs : List Fd) (hm : fs.length = m) (hl : m ≤ 9223372036854775807) (hcA : m ≤ cA) (hA : Rd W A (cellsF fs)) (hs : NmS fs) (q : Int) (hq : defE D nm fs = q) (D' : List Ty) (hD : defD D nm fs = D') :
    Calls Tryz.prog 28 #[.pointer (some ⟨cp, 0, none⟩), .string nm, .slice A m cA] W fun e w' => e = .returned (.int .i64 q) ∧ ASt w cp mp D' w' ∧ Kp W w' := by
  obtain ⟨E, es, k, rfl, h2, h3, h4⟩ := h
  refine (Define_m h2 hn A cA m fs hm hl hcA hA q hq D' hD).mono ?_
  rintro e w' ⟨rfl, hc⟩
  exact ⟨rfl, ASt.to h2 h3 (by rw [← hD]; exact h4.def hs) hc⟩
theorem CatOk.ch {D : List Ty} (h : CatOk D) (nm : ByteArray) {cs : List Ch} (hc : ∀ c ∈ cs, c.g.s.size ≤ 281474976710656 ∧ 0 ≤ c.d.b ∧ c.d.b < 18446744073709551616) : CatOk (chD D nm cs) := by
  have := h.do (o := ⟨1, nm, [], cs, []⟩) ⟨(fun f hf => by cases hf), hc⟩
  simpa [doD] using this
theorem CatOk.re {D : List Ty} (h : CatOk D) (nm : ByteArray) (q : List Int) : CatOk (reD D nm q) := by
  have := h.do (o := ⟨2, nm, [], [], q⟩) ⟨(fun f hf => by cases hf), (fun c hc => by cases hc)⟩
  simpa [doD] using this
theorem Change_a {w W : World} {cp mp : Nat} {D : List Ty} (h : ASt w cp mp D W) {nm : ByteArray} (hn : nm.size ≤ maxLen) (K : Option Addr) (cK nc : Nat) (cs : List (Ch × Value)) (hnc : cs.length = nc) (hk : nc ≤ 9223372036854775807) (hw : ∀ p ∈ cs, ChW p) (hK : Rd W K (cellsC cs)) (ho : ∀ p ∈ cs, ChO W p) (q : Int) (hq : chE D nm (cs.map (·.1)) = q) (v : Nat) (hv : chV D nm (cs.map (·.1)) = v) (D' : List Ty) (hD : chD D nm (cs.map (·.1)) = D') :
    Calls Tryz.prog 29 #[.pointer (some ⟨cp, 0, none⟩), .string nm, .slice K nc cK] W fun e w' => e = .returned (.tuple #[.int .i64 (v : Nat), .int .i64 q]) ∧ ASt w cp mp D' w' ∧ Kp W w' := by
  obtain ⟨E, es, k, rfl, h2, h3, h4⟩ := h
  refine (Change_m h2 hn K cK nc cs hnc hk hw hK ho h4 q hq v hv D' hD).mono ?_
  rintro e w' ⟨rfl, hc⟩
  have hcc : ∀ c ∈ cs.map (·.1), c.g.s.size ≤ 281474976710656 ∧ 0 ≤ c.d.b ∧ c.d.b < 18446744073709551616 := fun c hc => by
    obtain ⟨p, hp, rfl⟩ := List.mem_map.1 hc
    exact ⟨(hw p hp).2.2.2, (hw p hp).2.1⟩
  exact ⟨rfl, ASt.to h2 h3 (by rw [← hD]; exact h4.ch nm hcc) hc⟩
theorem Retire_a {w W : World} {cp mp : Nat} {D : List Ty} (h : ASt w cp mp D W) {nm : ByteArray} (hn : nm.size ≤ maxLen) (L : Option Addr) (cL nl : Nat) (q : List Int) (hnl : q.length = nl) (hl : nl ≤ 9223372036854775807) (hL : Rd W L (cellsI q)) (qe : Int) (hqe : reE D nm q = qe) (v : Nat) (hv : reV D nm q = v) (D' : List Ty) (hD : reD D nm q = D') :
    Calls Tryz.prog 20 #[.pointer (some ⟨cp, 0, none⟩), .string nm, .slice L nl cL] W fun e w' => e = .returned (.tuple #[.int .i64 (v : Nat), .int .i64 qe]) ∧ ASt w cp mp D' w' ∧ Kp W w' := by
  obtain ⟨E, es, k, rfl, h2, h3, h4⟩ := h
  refine (Retire_m h2 hn L cL nl q hnl hl hL h4 qe hqe v hv D' hD).mono ?_
  rintro e w' ⟨rfl, hc⟩
  exact ⟨rfl, ASt.to h2 h3 (by rw [← hD]; exact h4.re nm q) hc⟩
theorem opOk {W : World} {x : OpV} (hG : x.G W) (hS : x.S) : OpOk x.z := by
  refine ⟨fun f hf => hS.fs f hf, fun c hc => ?_⟩
  obtain ⟨p, hp, rfl⟩ := List.mem_map.1 hc
  exact ⟨(hS.cs p hp).2.1, (hG.cg p hp).2.1⟩
theorem does_a {w W : World} {cp mp : Nat} {D : List Ty} (h : ASt w cp mp D W) (x : OpV) (hG : x.G W) (hS : x.S) (nf nc nl : Nat) (hnf : x.fs.length = nf) (hnc : x.cs.length = nc) (hnl : x.live.length = nl) (q : Int) (hq : doE D x.z = q) (v : Nat) (hv : doV D x.z = v) (D' : List Ty) (hD : doD D x.z = D') :
    Calls Tryz.prog 13 #[.pointer (some ⟨cp, 0, none⟩), .agg #[.int .i64 x.k, .string x.s, .slice x.A nf x.a, .slice x.C nc x.c, .slice x.L nl x.l]] W fun e w' => e = .returned (.tuple #[.int .i64 (v : Nat), .int .i64 q]) ∧ ASt w cp mp D' w' ∧ Kp W w' := by
  obtain ⟨E, es, k, rfl, h2, h3, h4⟩ := h
  refine (does_m h2 h4 x hG hS nf nc nl hnf hnc hnl q hq v hv D' hD).mono ?_
  rintro e w' ⟨rfl, hc⟩
  exact ⟨rfl, ASt.to h2 h3 (by rw [← hD]; exact h4.do (opOk hG hS)) hc⟩
theorem Versions_a {w W : World} {cp mp : Nat} {D : List Ty} (h : ASt w cp mp D W) {nm : ByteArray} (hn : nm.size ≤ maxLen) (o t : Nat) (q : Int) (ho : verO D nm = o) (ht : verT D nm = t) (hq : verE D nm = q) :
    Calls Tryz.prog 15 #[.pointer (some ⟨cp, 0, none⟩), .string nm] W fun e w' => e = .returned (.tuple #[.int .i64 (o : Nat), .int .i64 (t : Nat), .int .i64 q]) ∧ Below W.heap.size W w' := by
  obtain ⟨E, es, k, rfl, h2, h3, h4⟩ := h
  exact Versions_m h2 hn h4 _ rfl o t q ho ht hq
theorem Fields_a {w W : World} {cp mp : Nat} {D : List Ty} (h : ASt w cp mp D W) {nm : ByteArray} (hn : nm.size ≤ maxLen) (v : Int) (q : Int) (hq : fldE D nm v = q) (l : List Fd) (hl : fldL D nm v = l) (m : Nat) (hm : l.length = m) :
    Calls Tryz.prog 16 #[.pointer (some ⟨cp, 0, none⟩), .string nm, .int .i64 v] W fun e w' => ∃ B b, e = .returned (.tuple #[.slice B m b, .int .i64 q]) ∧ m ≤ b ∧ RdP (fun g => W.heap.size ≤ g) w' B (cellsF l) ∧ Below W.heap.size W w' := by
  obtain ⟨E, es, k, rfl, h2, h3, h4⟩ := h
  exact Fields_m h2 hn h4 _ rfl v q hq l hl m hm
theorem Upgrade_a {w W : World} {cp mp : Nat} {D : List Ty} (h : ASt w cp mp D W) {nm : ByteArray} (hn : nm.size ≤ maxLen) (v : Int) (b : List UInt8) (nb : Nat) (hb0 : b.length = nb) (hnb : nb ≤ 9223372036854775807) (Ab : Option Addr) (cb : Nat) (hcb : nb ≤ cb) (hb : Rd W Ab (bytesV b)) (q : Int) (hq : upgE D nm v b = q) (r : List UInt8) (hr : upgV D nm v b = r) (z : Nat) (hz : r.length = z) :
    Calls Tryz.prog 18 #[.pointer (some ⟨cp, 0, none⟩), .string nm, .int .i64 v, .slice Ab nb cb] W fun e w' => ∃ B c', e = .returned (.tuple #[.slice B z c', .int .i64 q]) ∧ z ≤ c' ∧ Rd w' B (bytesV r) ∧ Below W.heap.size W w' := by
  obtain ⟨E, es, k, rfl, h2, h3, h4⟩ := h
  exact Upgrade_m h2 hn h4 _ rfl v b nb hb0 hnb Ab cb hcb hb q hq r hr z hz
theorem Names_a {w W : World} {cp mp : Nat} {D : List Ty} (h : ASt w cp mp D W) :
    Calls Tryz.prog 14 #[.pointer (some ⟨cp, 0, none⟩)] W fun e w' => ∃ B c ns, e = .returned (.slice B ns.length c) ∧ ns.Perm (D.map (·.s)) ∧ Rd w' B (cellsS ns) ∧ Below W.heap.size W w' := by
  obtain ⟨E, es, k, rfl, h2, h3, h4⟩ := h
  refine (Names_m h2 (by have := h4.len; simp at this; omega)).mono ?_
  rintro e w' ⟨B, c, ns, h⟩
  exact ⟨B, c, ns, h.1, by rw [List.map_map]; exact h.2.1, h.2.2⟩
/-- the example -/
def nmA : ByteArray := ⟨#[97]⟩
def fsX : List Fd := [⟨⟨#[120]⟩, 1, 0⟩]
def chX : Ch := ⟨4, ⟨#[120]⟩, ⟨⟨#[]⟩, 2, 0⟩, ⟨0, 0, ⟨#[]⟩⟩, []⟩
def DA : List Ty := defD [] nmA fsX
def DB : List Ty := chD DA nmA [chX]
def DC : List Ty := reD DB nmA []
def bX : List UInt8 := [255, 0, 0, 0, 0, 0, 0, 0]
theorem aa1 : defE [] nmA fsX = 0 := by decide +kernel
theorem aa2 : chE DA nmA [chX] = 0 := by decide +kernel
theorem aa3 : chV DA nmA [chX] = 2 := by decide +kernel
theorem aa4 : upgE DB nmA 1 bX = 0 := by decide +kernel
theorem aa5 : upgV DB nmA 1 bX = bX := by decide +kernel
theorem aa6 : reE DB nmA [1] = 93 := by decide +kernel
theorem aa7 : reV DB nmA [1] = 0 := by decide +kernel
theorem aa8 : reD DB nmA [1] = DB := by rw [reD, if_neg (by rw [aa6]; decide)]
theorem aa9 : reE DB nmA [] = 0 := by decide +kernel
theorem aa10 : reV DB nmA [] = 1 := by decide +kernel
theorem aa11 : verO DC nmA = 2 := by decide +kernel
theorem aa12 : verT DC nmA = 2 := by decide +kernel
theorem aa13 : verE DC nmA = 0 := by decide +kernel
theorem nmA_max : nmA.size ≤ maxLen := by decide
set_option maxHeartbeats 4000000 in
theorem alive_calls9 (w : World) : Calls Tryz.prog 11 #[] w fun e w' => e = .returned (.bool true) ∧ Below w.heap.size w w' := by
  go_enter Tryz.func11, Tryz.ntmps11
  go_upto_region 4 with (go_at_call 12; refine (New_a w _ (Below.refl _ _)).mono ?_; rintro e w1 ⟨cp, mp, rfl, S1, hb1⟩)
  have R1 : Rd (w1.alloc (.cells #[.string ⟨#[120]⟩, .int .i64 1, .int .i64 0] 68)) (some ⟨w1.heap.size, 0, none⟩) (cellsF fsX) := rd_new w1 (cellsF fsX) 68
  go_upto_region 5 with (go_at_call 28; refine (Define_a (S1.below (below_new _)) nmA_max _ 1 1 fsX rfl (by omega) (by omega) R1 (fun f hf => by simp [fsX] at hf; subst hf; decide) 0 aa1 DA rfl).mono ?_; rintro e w2 ⟨rfl, S2, K2⟩)
  have R2 : Rd (w2.alloc (.cells #[.int .i64 4, .string ⟨#[120]⟩, .string ⟨#[]⟩, .int .i64 2, .int .i64 0, .int .i64 0, .int .u64 0, .string ⟨#[]⟩, .slice none 0 0] 76)) (some ⟨w2.heap.size, 0, none⟩) (cellsC [(chX, .slice none 0 0)]) := rd_new w2 (chL chX (.slice none 0 0)) 76
  have cw : ∀ p ∈ [(chX, Value.slice none 0 0)], ChW p := fun p hp => by simp at hp; subst hp; exact ⟨⟨by decide, by decide⟩, ⟨by decide, by decide⟩, by decide, by decide⟩
  have co : ∀ W, ∀ p ∈ [(chX, Value.slice none 0 0)], ChO W p := fun W p hp => by simp at hp; subst hp; exact ⟨none, 0, rfl, by decide, by decide, Rd.nil _ _⟩
  clear R1
  go_upto_region 6 with (go_at_call 29; refine (Change_a (S2.below (below_new _)) nmA_max _ 1 1 [(chX, .slice none 0 0)] rfl (by omega) cw R2 (co _) 0 aa2 2 aa3 DB rfl).mono ?_; rintro e w3 ⟨rfl, S3, K3⟩)
  have R3 : Rd (w3.alloc (.cells #[.int .u8 255, .int .u8 0, .int .u8 0, .int .u8 0, .int .u8 0, .int .u8 0, .int .u8 0, .int .u8 0] 5)) (some ⟨w3.heap.size, 0, none⟩) (bytesV bX) := rd_new w3 (bytesV bX) 5
  clear R2 cw co
  go_upto_region 7 with (go_at_call 18; refine (Upgrade_a (S3.below (below_new _)) nmA_max 1 bX 8 rfl (by omega) _ 8 (Nat.le_refl _) R3 0 aa4 bX aa5 8 rfl).mono ?_; rintro e w4 ⟨B, cB, rfl, hcB, R4, hb4⟩; have S4 := (S3.below (below_new _)).below hb4)
  have R5 : Rd (w4.alloc (.cells #[.int .i64 1] 3)) (some ⟨w4.heap.size, 0, none⟩) (cellsI [1]) := rd_new w4 (cellsI [1]) 3
  clear R3 hb4
  go_upto_region 8 with (go_at_call 20; refine (Retire_a (S4.below (below_new _)) nmA_max _ 1 1 [1] rfl (by omega) R5 93 aa6 0 aa7 DB aa8).mono ?_; rintro e w5 ⟨rfl, S5, K5⟩; replace R4 := K5 _ _ (R4.below (below_new _)) (.inr (.inr ⟨_, _, _, _, _, rfl⟩)))
  clear R5
  go_upto_region 9 with (go_at_call 20; refine (Retire_a S5 nmA_max none 0 0 [] rfl (by omega) (Rd.nil _ _) 0 aa9 1 aa10 DC rfl).mono ?_; rintro e w6 ⟨rfl, S6, K6⟩; replace R4 := K6 _ _ R4 (.inr (.inr ⟨_, _, _, _, _, rfl⟩)))
  go_upto_region 10 with (go_at_call 15; refine (Versions_a S6 nmA_max 2 2 0 aa11 aa12 aa13).mono ?_; rintro e w7 ⟨rfl, hb7⟩; replace R4 := R4.below hb7)
  have hcv : (convert 44 9 (.slice B 8 cB)).run Tryz.prog w7 = .ok (.string (strL bX)) w7 := conv_at R4 8 cB rfl
  have hse : ((strL bX).toList == [255, 0, 0, 0, 0, 0, 0, 0]) = true := by decide +kernel
  go_wp2
  go_ret
  exact ⟨rfl, (S6.below hb7).b⟩
end Go.Proofs.YteembinfgbapgaaGreat
/- SchemaMany, walked: it tells true. -/
set_option linter.unusedSimpArgs false
set_option linter.unusedVariables false
set_option maxRecDepth 100000
namespace Go.Proofs.YteembinfgbapgaaGreat
open Go.RowKit Go.Lib Go.Maps

theorem OpV.G.below {w w' : World} {x : OpV} (h : x.G w) (hb : Below w.heap.size w w') : x.G w' :=
  ⟨h.k0, h.k1, h.s, h.fs.below hb, h.fa, h.cs.below hb, h.ca, fun p hp => ⟨(h.cg p hp).1, (h.cg p hp).2.1, (h.cg p hp).2.2.below hb⟩, h.live.below hb, h.la⟩
theorem findY_of {D : List Ty} {nm : ByteArray} (h : nm ∈ D.map (·.s)) : ∃ t, findY D nm = some t := by
  cases hf : findY D nm with
  | some t => exact ⟨t, rfl⟩
  | none =>
    obtain ⟨t, ht, e⟩ := List.mem_map.1 h
    exact absurd e (findY_none hf t ht)
theorem name_max {nm : ByteArray} (h : nameB nm = true) : nm.size ≤ maxLen := by
  unfold nameB at h
  rw [Bool.and_eq_true] at h
  have := of_decide_eq_true h.2
  simp only [maxLen]
  omega
theorem Ty.Ok.sum {t : Ty} (h : t.Ok) : t.old ≤ t.top := by
  have hlen : 0 < t.ts.length := by cases hx : t.ts with | nil => exact absurd hx h.ne | cons a r => simp
  have h2 : t.top = t.old + t.ts.length - 1 := rfl
  omega
theorem fldE_in {D : List Ty} {nm : ByteArray} {t : Ty} (hf : findY D nm = some t) (ht : t.Ok) {v : Nat} (h1 : t.old ≤ v) (h2 : v ≤ t.top) : fldE D nm (v : Int) = 0 := by
  cases hv : verTab D nm (v : Int) with
  | some x => rw [fldE, hv]
  | none =>
    rw [verTab, hf] at hv
    have := (tabAt_none ht).1 hv
    omega
set_option maxHeartbeats 8000000 in
theorem SchemaMany_row (A : Option Addr) (cA : Nat) (os : List OpV) (w : World) (hA : Rd w A (cellsO os)) (hcA : os.length ≤ cA) (hG : ∀ x ∈ os, x.G w) (hz : (∀ x ∈ os, x.S) ∧ os.length ≤ 281474976710656) :
    Calls Tryz.prog 3 #[.slice A os.length cA] w fun e w' => e = .returned (.bool true) ∧ Below w.heap.size w w' := by
  obtain ⟨m, hm⟩ : ∃ m, os.length = m := ⟨_, rfl⟩
  rw [hm] at hcA ⊢
  obtain ⟨hS, hl⟩ := hz
  rw [hm] at hl
  have HM := Lib.hid hm; have HG := Lib.hid hG; have HS := Lib.hid hS
  clear hm hG hS
  go_enter Tryz.func3, Tryz.ntmps3
  go_wp2_with (go_at_call 10; refine (few9_m A cA m os HM.out (by omega) _ hA HG.out HS.out).mono ?_)
  rintro e W1 ⟨rf, rfl, HB⟩
  cases rf
  · go_wp2_with (go_at_call 11; refine (alive_calls9 _).mono ?_; rintro e wM ⟨rfl, hb'⟩; replace HB := HB.trans (hb'.mono HB.size); clear hb')
    go_ret
    exact ⟨rfl, HB⟩
  go_upto_region 7 with (go_at_call 12; refine (New_a w _ HB).mono ?_; rintro e w1 ⟨cp, mp, rfl, S1, hb1⟩)
  clear hb1 HB
  go_loopw [5, 24] (fun _ i wr => ∃ (k : Nat) (D : List Ty), k ≤ m ∧ i = .int .i64 k ∧ ASt w cp mp D wr) (fun _ i _ => m - (intOf i).toNat)
  case atStart => exact ⟨0, [], by omega, rfl, S1⟩
  case round =>
    obtain ⟨k, D, hk, rfl, St⟩ := hrel
    clear S1
    have HB := St.b
    have hAr := hA.below HB
    by_cases hlt : k < m
    · obtain ⟨x, hx⟩ : ∃ x, os[k]? = some x := ⟨_, List.getElem?_eq_getElem (by rw [HM.out]; exact hlt)⟩
      have hxm := List.mem_of_getElem? hx
      have xG := (HG.out x hxm).below HB
      have xS := HS.out x hxm
      obtain ⟨ad, rfl, c0, c1, c2, c3, c4⟩ := hAr.op hx
      obtain ⟨nf, hnf⟩ : ∃ y, x.fs.length = y := ⟨_, rfl⟩
      obtain ⟨nc, hnc⟩ : ∃ y, x.cs.length = y := ⟨_, rfl⟩
      obtain ⟨nl, hnl⟩ : ∃ y, x.live.length = y := ⟨_, rfl⟩
      rw [hnf] at c2; rw [hnc] at c3; rw [hnl] at c4
      obtain ⟨q, hq⟩ : ∃ y, doE D x.z = y := ⟨_, rfl⟩
      obtain ⟨v, hv⟩ : ∃ y, doV D x.z = y := ⟨_, rfl⟩
      obtain ⟨D', hD⟩ : ∃ y, doD D x.z = y := ⟨_, rfl⟩
      have P := OBox.new wr [.int .i64 x.k, .string x.s, .slice x.A nf x.a, .slice x.C nc x.c, .slice x.L nl x.l] 31
      have nb := below_new (w := wr) (.cells #[.int .i64 x.k, .string x.s, .slice x.A nf x.a, .slice x.C nc x.c, .slice x.L nl x.l] 31)
      have S2 := St.below nb
      have xG2 := xG.below nb
      have HNF := Lib.hid hnf; have HNC := Lib.hid hnc; have HNL := Lib.hid hnl; have HQ := Lib.hid hq; have HV := Lib.hid hv; have HD := Lib.hid hD; have HXS := Lib.hid xS; have HXG := Lib.hid xG2
      clear hAr hx hnf hnc hnl hq hv hD xG xG2 xS HB St
      go_upto_region 9 with fail
      generalize wr.alloc (.cells #[.int .i64 x.k, .string x.s, .slice x.A nf x.a, .slice x.C nc x.c, .slice x.L nl x.l] 31) = W2 at *
      obtain ⟨p0, p1, p2, p3, p4⟩ := P.f5
      clear c0 c1 c2 c3 c4 nb
      go_upto_region 11 with (first
        | (go_at_call 13; refine (does_a S2 x HXG.out HXS.out nf nc nl HNF.out HNC.out HNL.out q HQ.out v HV.out D' HD.out).mono ?_; rintro e w3 ⟨rfl, S3, _⟩; clear S2 P p0 p1 p2 p3 p4 HXG)
        | (go_at_call 14; refine (Names_a S3).mono ?_; rintro e w4 ⟨B, cB, ns, rfl, hperm, hrB, hb4⟩; have S4 := S3.below hb4; clear S3 hb4))
      obtain ⟨nn, hnn⟩ : ∃ y, ns.length = y := ⟨_, rfl⟩
      have hok : CatOk D' := by obtain ⟨E, es, k, _, _, _, h⟩ := S4; exact h
      have h16 : nn ≤ 16 := by have h1 := hperm.length_eq; rw [List.length_map] at h1; have := hok.len; omega
      have e16 : decide ((16 : Int) < (nn : Int)) = false := by simp; omega
      rw [hnn]
      have HNN := Lib.hid hnn; have HPM := Lib.hid hperm; have HOK := Lib.hid hok
      clear hnn hperm hok
      go_upto_region 14 with fail
      go_loopw [8, 38] (fun _ i wx => ∃ (j : Nat), j ≤ nn ∧ i = .int .i64 j ∧ Below w4.heap.size w4 wx) (fun _ i _ => nn - (intOf i).toNat)
      case atStart => exact ⟨0, by omega, rfl, Below.refl _ _⟩
      case round =>
        obtain ⟨j, hj, rfl, HB⟩ := hrel
        have S5 := S4.below HB
        have hrx := hrB.below HB
        by_cases hjn : j < nn
        · obtain ⟨nm, hnm⟩ : ∃ y, ns[j]? = some y := ⟨_, List.getElem?_eq_getElem (by rw [HNN.out]; exact hjn)⟩
          obtain ⟨t, ht⟩ := findY_of (HPM.out.subset (List.mem_of_getElem? hnm))
          have hto := HOK.out.ok t (findY_mem ht).1
          have hmx : nm.size ≤ maxLen := by rw [← (findY_mem ht).2]; exact name_max hto.nm
          obtain ⟨bd, rfl, n0⟩ := hrx.at (j := j) (u := .string nm) (by simp [cellsS, hnm])
          obtain ⟨old, hold⟩ : ∃ y, t.old = y := ⟨_, rfl⟩
          obtain ⟨top, htop⟩ : ∃ y, t.top = y := ⟨_, rfl⟩
          have a1 := hto.lo; have a2 := hto.hi; have a3 := hto.sum
          rw [hold] at a1 a3; rw [htop] at a2 a3
          have v1 : verO D' nm = old := by rw [verO, ht]; exact hold
          have v2 : verT D' nm = top := by rw [verT, ht]; exact htop
          have v3 : verE D' nm = 0 := by rw [verE, ht]
          have v4 : ∀ v : Nat, old ≤ v → v ≤ top → fldE D' nm (v : Int) = 0 := fun v h1 h2 => fldE_in ht hto (by omega) (by omega)
          have HV1 := Lib.hid v1; have HV2 := Lib.hid v2; have HV3 := Lib.hid v3; have HV4 := Lib.hid v4
          have d1 : decide ((old : Int) < 1) = false := by simp; omega
          have d2 : decide ((top : Int) < (old : Int)) = false := by simp; omega
          have d3 : decide ((64 : Int) < (top : Int)) = false := by simp; omega
          have d4 : decide (top < old) = false := by simp; omega
          clear hnm ht hto hold htop v1 v2 v3 v4 hrx
          go_upto_region 20 with (go_at_call 15; refine (Versions_a S5 hmx old top 0 HV1.out HV2.out HV3.out).mono ?_; rintro e w5 ⟨rfl, hb5⟩; replace HB := HB.trans (hb5.mono HB.size))
          have HB0 := HB
          clear HB
          go_loopw [12] (fun i wy => ∃ (v : Nat), old ≤ v ∧ v ≤ top + 1 ∧ i = .int .i64 v ∧ Below w4.heap.size w4 wy) (fun i _ => top + 1 - (intOf i).toNat)
          case atStart => exact ⟨old, Nat.le_refl _, by omega, rfl, HB0⟩
          case round =>
            obtain ⟨v, hv0, hv1, rfl, HB⟩ := hrel
            clear HB0
            by_cases hvt : v ≤ top
            · have hvv : decide ((v : Int) ≤ (top : Int)) = true := by simp; omega
              have hvw : IntKind.i64.wrap ((v : Int) + 1) = ((v + 1 : Nat) : Int) := (IntWalk.i64_in _ (by omega)).trans (by omega)
              go_wp2_with (go_at_call 16; refine (Fields_a (S4.below HB) hmx (v : Int) 0 (HV4.out v hv0 hvt) _ rfl _ rfl).mono ?_; rintro e w6 ⟨B6, b6, rfl, _, _, hb6⟩; replace HB := HB.trans (hb6.mono HB.size))
              go_roundw
              case rel => exact ⟨v + 1, by omega, by omega, by go_num, HB⟩
              case measure => simp [intOf]; omega
            · obtain rfl : v = top + 1 := by omega
              have hvv : decide (((top + 1 : Nat) : Int) ≤ (top : Int)) = false := by simp; omega
              go_wp2
              go_roundw
              case rel => exact ⟨j + 1, by omega, by go_num, HB⟩
              case measure => simp [intOf]; omega
        · obtain rfl : j = nn := by omega
          go_wp2
          go_roundw
          case rel => exact ⟨k + 1, D', by omega, by go_num, S5⟩
          case measure => simp [intOf]; omega
    · obtain rfl : k = m := by omega
      go_wp2_with (go_at_call 11; refine (alive_calls9 _).mono ?_; rintro e wM ⟨rfl, hb'⟩; replace HB := HB.trans (hb'.mono HB.size); clear hb')
      go_ret
      exact ⟨rfl, HB⟩
end Go.Proofs.YteembinfgbapgaaGreat
/- The law SchemaMany: WHATEVER THE INPUT it tells true, it never panics, and the input reads as it did: the row, out of SchemaMany_calls. -/
set_option linter.unusedVariables false
set_option linter.unusedSimpArgs false
set_option maxRecDepth 100000
namespace Go.Proofs.YteembinfgbapgaaGreat.schemaMany
open Go.ChangeShapes Go.WideShapes Go.ChangeAt Go.RowKit Go.Joins
open Go.ChangeMaps (open_string shut_string)
theorem own : ownKnob Tryz.prog.godebug = none := by kernel_rfl
theorem laidOut : laidOutB Tryz.prog = true := by kernel_rfl
set_option maxRecDepth 100000 in
theorem lifted (os : Os) (started : os.Started) (H : Type) (enc : TypeId × Value → H) :
    ReturnsInHanded {} Tryz.checked os 3 .any (Rows.schemaManySpec.pre6 enc Tryz.prog Tryz.f3 Rows.schemaManyRow.domain false) (Rows.schemaManySpec.post enc Tryz.prog Tryz.f3 false true false false) := by
  refine returnsInHanded_of_change_sized (C := Tryz.checked) own started (by kernel_rfl) Tryz.func3
    (ChangeSpec.witness6 (enc := enc) (C := Tryz.checked) false ⟨#[], #[.slice none 0 0], []⟩ 8 (by kernel_rfl) (by kernel_rfl) (by kernel_rfl) (by kernel_rfl)) ?_
  intro W base args ds gs before hval0 hW hcnd hsz0 _
  have hval : ∀ (j : Nat) t v, Tryz.f3.params[j]? = some t → args[j]? = some v → Value.okWide Tryz.prog W .any base t v := hval0
  have hW' := hW
  obtain ⟨p, q, hA0, hV, rfl, hfz, hnd⟩ := hW
  have hA : DataW.TrodAll enc Tryz.prog W 0 (fun _ => true) true Tryz.f3.params.toList args.toList ds p := hA0
  rw [Tryz.params3] at hA hval
  obtain ⟨v0, vs0, d0, ds0, p0, q0, hargs, rfl, rfl, h0, r0⟩ := trodAll_cons hA
  obtain ⟨rfl, rfl, rfl⟩ := trodAll_nil r0
  obtain rfl : args = #[v0] := by cases args; simp_all
  obtain ⟨rfl, rfl⟩ := trodVars_none hV
  have k0 := h0
  have lt0 : ∀ x ∈ p0, x.block < W.heap.size := by obtain ⟨m, hm⟩ := k0; exact DataW.trod_lt m _ _ _ hm
  obtain ⟨a0, c0, l0, rfl, e0, f0, g0, s0, z0⟩ := open_ops (hval 0 22 v0 rfl rfl) h0
  replace z0 := z0 (SzT.of hsz0 (j := 0) rfl rfl)
  clear hA0 hval0 hsz0
  refine (SchemaMany_row a0 c0 l0 W g0 e0 s0 z0).mono fun e W' ⟨he, bel⟩ => ?_
  subst he
  exact ⟨_, rfl, _, _, _, [], _, [], hW', trodAll_mk1 (shut_bool Tryz.underlying4 _), (trodAll_cons_mk (Below.trod laidOut (by kernel_rfl) (of_decide_eq_true (by kernel_rfl)) k0 bel lt0) trodAll_mk0), rfl, bel.frame _, fun h => by cases h⟩
theorem over : Rows.schemaManyRow.holds Tryz.pinned (OpenSpec.ofChange Rows.schemaManySpec) :=
  OpenClaim.holds_of_wide 3 Tryz.f3 rfl rfl rfl rfl rfl rfl rfl ⟨rfl, rfl, rfl, rfl, rfl⟩ rfl rfl rfl rfl rfl (by kernel_rfl) Tryz.func3 (by kernel_rfl)
    (of_decide_eq_true (by kernel_rfl)) (by unfold Func.isWrapper; first | (rw [if_pos (by decide +kernel)]; kernel_rfl) | (rw [if_neg (by decide +kernel)]; exact ⟨rfl, rfl⟩))
    (fun os started H enc _ => lifted os started H enc)
theorem proved : Rows.SchemaManySaid := over
end Go.Proofs.YteembinfgbapgaaGreat.schemaMany
namespace Go.Proofs.YteembinfgbapgaaGreat
/-- The row, under a short name, for the claim. -/
theorem schemaMany_holds : Rows.SchemaManySaid := schemaMany.proved
end Go.Proofs.YteembinfgbapgaaGreat
