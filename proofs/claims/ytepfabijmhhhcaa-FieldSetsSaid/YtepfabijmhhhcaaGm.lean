/- Layer 6 of the heap, fields, thirteenth part: fields are written. -/
import Derived.Test.YtepfabijmhhhcaaGl
import Derived.Deep.RegionHeld3
import Derived.Deep.AppendLies
import Derived.Lib.AppendStr
set_option linter.unusedSimpArgs false
set_option linter.unusedVariables false
namespace Go.Proofs.Ytepfabijmhhhcaa
open Go.RowKit

/-- a field, written -/
def rowF (f : Fd) : List UInt8 := UInt8.ofNat f.s.size :: (bl f.s ++ [UInt8.ofNat f.k.toNat, UInt8.ofNat f.l.toNat])
def encFL (fs : List Fd) : List UInt8 := UInt8.ofNat fs.length :: fs.flatMap rowF
theorem rowF_length (f : Fd) : (rowF f).length = f.s.size + 3 := by simp [rowF, bl_length]
theorem flat_length (fs : List Fd) (h : ∀ f ∈ fs, f.s.size ≤ 15) : (fs.flatMap rowF).length ≤ 18 * fs.length := by
  induction fs with
  | nil => simp
  | cons f r ih =>
    have h1 := h f (List.mem_cons_self ..)
    have h2 := ih fun g hg => h g (List.mem_cons_of_mem _ hg)
    rw [List.flatMap_cons, List.length_append, rowF_length, List.length_cons]; omega
theorem name_size {s : ByteArray} (h : nameB s = true) : 1 ≤ s.size ∧ s.size ≤ 15 := by
  simp only [nameB, Bool.and_eq_true, decide_eq_true_eq] at h
  exact h.2
theorem rightF_name {fs : List Fd} (h : rightF fs = true) {f : Fd} (hf : f ∈ fs) : nameB f.s = true := by
  simp only [rightF, Bool.and_eq_true, decide_eq_true_eq] at h
  obtain ⟨i, hi, rfl⟩ := List.getElem_of_mem hf
  have := h.1 i hi
  simp only [okF, Bool.and_eq_true] at this
  exact this.1.1
theorem may_small {k l : Int} (h : mayB k l = true) : 0 ≤ k ∧ k ≤ 12 ∧ 0 ≤ l ∧ l ≤ 64 := by
  by_cases hk : k = 12
  · subst hk
    have := btw_iff.1 (mayB_12 ▸ h)
    omega
  · obtain ⟨h1, h2⟩ := mayB_of h hk
    have := (size_pos k).1 h2
    omega
theorem step_append_str {P : Program} {w : World} {ops : Array Oper} {o : Oper} {a : Act} {K : Act → World → Prop} {Q : Exit → Act → World → Prop} {E : Prop} (hgd : o.guard = none) (sl x : Operand) (t u : TypeId)
    (ho : o.op = .call { callee := .builtin .append, args := #[sl, x], argTypes := #[t, u] })
    (base : Nat) (e : TypeId) (i : TypeInfo) (ht : P.underlying t = some (.slice e)) (hu : P.underlying u = some .string) (hi : P.info? e = some i) (hz : i.zero = some (.int .u8 0))
    (hsize : i.size = 1) (hby : i.bytes = 1)
    (v : Value) (n : Nat) (xs : List Value) (hs : a.eval sl = v) (hown : w.ownsRow base e 1 v n xs) (s : ByteArray) (hx : a.eval x = .string s)
    (h63 : n + s.size ≤ maxLen) (hbytes : n + s.size ≤ 140737488355328) (hbase : base ≤ w.heap.size)
    (h : ∀ v' w', w'.ownsRow base e 1 v' (n + s.size) (xs ++ Lib.strCells s) → w.grownBy w' v.ownBlock → K (a.put o.dst v') w') :
    if Region.wanted o (yielded ops a.tmps) = true then Oper.wp P o a w K Q else E := by
  have hw : Region.wanted o (yielded ops a.tmps) = true := by simp [Region.wanted, hgd]
  rw [if_pos hw]
  obtain ⟨v', w', hr, h2, h3, h4⟩ := Lib.run_append_own_string (P := P) w base t u o.type e i ht hu hi hz hsize hby v n xs hown s h63 hbytes hbase
  unfold Oper.wp execOp
  simp only [ho, resolve, invoke, builtin, Sem.run_bind, Sem.run_pure, Result.andThen_ok, List.map_toArray, List.map_cons, List.map_nil, hs, hx, hr]
  exact h v' w' h2 h3
theorem FEncode_no (A : Option Addr) (c : Nat) (fs : List Fd) (hr : rightF fs = false) (w : World) (hA : Rd w A (cellsF fs)) (hl : fs.length ≤ 9223372036854775807) :
    Calls Try.prog 31 #[.slice A fs.length c] w fun e w' => e = .returned (.tuple #[.slice none 0 0, .int .i64 60]) ∧ Below w.heap.size w w' := by
  have HR := Lib.hid hr
  clear hr
  go_enter Try.func31, Try.ntmps31
  go_wp2_with (go_at_call 15; refine (FRight_is _ _ _ _ HR.out _ hA hl).mono ?_; rintro e w1 ⟨rfl, hb1⟩)
  go_ret2
  exact ⟨rfl, hb1⟩
/-- what was written when some fields are -/
def partF (fs : List Fd) (k : Nat) : List UInt8 := UInt8.ofNat fs.length :: (fs.take k).flatMap rowF
theorem partF_succ {fs : List Fd} {k : Nat} {f : Fd} (hf : fs[k]? = some f) : partF fs (k + 1) = partF fs k ++ rowF f := by
  unfold partF
  rw [List.take_add_one, hf]
  simp
theorem OwnB_len {w : World} {base n : Nat} {v : Value} {l : List UInt8} (h : w.ownsRow base 5 1 v n (bytesV l)) : n = l.length := by
  have := h.1; rw [bytesV_length] at this; omega
theorem own_lt {w : World} {base : Nat} {e : TypeId} {size n : Nat} {v : Value} {xs : List Value} (h : w.ownsRow base e size v n xs) (k : Nat) (hk : v.ownBlock = some k) : k < w.heap.size := by
  rcases h.2 with ⟨rfl, _⟩ | ⟨g, cap, cur, rfl, hb, hg, _⟩
  · simp [Value.ownBlock] at hk
  · have : g = k := by simpa [Value.ownBlock] using hk
    subst this
    exact (Array.getElem?_eq_some_iff.1 hg).1
theorem own_eq {w : World} {base : Nat} {e : TypeId} {size n m : Nat} {v : Value} {xs ys : List Value} (h : w.ownsRow base e size v n xs) (hn : n = m) (hx : xs = ys) : w.ownsRow base e size v m ys := by subst hn hx; exact h
theorem ne_of_at {b g n : Nat} {o : Option Nat} (h : some b ≠ o) (hat : o = some g ∨ g = n + 1) (hb : b < n) : some b ≠ some g := fun e => by
  cases e
  rcases hat with h1 | h1
  · exact h h1.symm
  · omega
theorem news2 (w : World) (u v : Value) (T : TypeId) : ∀ j x, [u, v][j]? = some x → (w.alloc (.cells #[u, v] T)).cell? ((⟨w.heap.size, 0, none⟩ : Addr).add j) = some x := by
  intro j x hj
  match j with
  | 0 => simp at hj; subst hj; exact cell_new w _ T 0 u rfl
  | 1 => simp at hj; subst hj; exact cell_new w _ T 1 v rfl
  | j + 2 => simp at hj
set_option maxHeartbeats 4000000 in
theorem FEncode_yes (A : Option Addr) (c : Nat) (fs : List Fd) (hr : rightF fs = true) (w : World) (hA : Rd w A (cellsF fs)) (hl : fs.length ≤ 9223372036854775807) :
    Calls Try.prog 31 #[.slice A fs.length c] w fun e w' => ∃ v, e = .returned (.tuple #[v, .int .i64 0]) ∧ w'.ownsRow w.heap.size 5 1 v (encFL fs).length (bytesV (encFL fs)) ∧ Below w.heap.size w w' := by
  obtain ⟨i0, hi, hz0, hz1, hz2⟩ := info_parts info5
  obtain ⟨hmay, h16⟩ := rightF_may hr
  have hnm := fun f hf => name_size (rightF_name hr (f := f) hf)
  have HR := Lib.hid hr
  clear hr
  go_enter Try.func31, Try.ntmps31
  go_wp2_with (go_at_call 15; refine (FRight_is _ _ _ _ HR.out _ hA hl).mono ?_; rintro e w1 ⟨rfl, hb1⟩)
  have e0 : bytesV (partF fs 0) = [.int .u8 (fs.length : Int)] := by simp [partF, bytesV]; omega
  have hown0 : (w1.alloc (.cells #[.int .u8 (fs.length : Int)] 5)).ownsRow w.heap.size 5 1 (.slice (some ⟨w1.heap.size, 0, none⟩) 1 1) (partF fs 0).length (bytesV (partF fs 0)) := by
    rw [e0]
    exact ⟨rfl, .inr ⟨_, 1, #[.int .u8 (fs.length : Int)], rfl, hb1.size, World.alloc_heap_new _ _, Nat.le_refl _, by decide, rfl, rfl⟩⟩
  have HB0 := hb1.alloc hb1.size (.cells #[.int .u8 (fs.length : Int)] 5)
  clear e0 HR
  go_loopw [4, 6, 16] (fun v _ i wr => ∃ k : Nat, k ≤ fs.length ∧ i = .int .i64 k ∧ wr.ownsRow w.heap.size 5 1 v (partF fs k).length (bytesV (partF fs k)) ∧ Below w.heap.size w wr) (fun _ _ i _ => fs.length - (intOf i).toNat)
  case atStart => exact ⟨0, by omega, rfl, hown0, HB0⟩
  case round =>
    obtain ⟨k, hk, rfl, hown, HB⟩ := hrel
    clear hown0 HB0 hb1
    have hAr := hA.below HB
    by_cases hlt : k < fs.length
    · obtain ⟨f, hf⟩ : ∃ f, fs[k]? = some f := ⟨_, List.getElem?_eq_getElem hlt⟩
      obtain ⟨ad, rfl, c0, c1, c2⟩ := hAr.fld hf
      have hfm := List.mem_of_getElem? hf
      obtain ⟨n1, n2⟩ := hnm f hfm
      obtain ⟨m1, m2, m3, m4⟩ := may_small (hmay f hfm)
      have hsucc := partF_succ hf
      have hpl : (partF fs k).length ≤ 400 := by
        have := flat_length (fs.take k) (fun g hg => (hnm g (List.mem_of_mem_take hg)).2)
        rw [List.length_take] at this
        simp only [partF, List.length_cons]; omega
      have HS := Lib.hid hsucc
      obtain ⟨F0a, F0b, F0c⟩ := FBox.new wr f.s f.k f.l
      have hzr := HB.size
      have hlt0 := own_lt hown
      have hownW := hown.alloc (.cells #[.string f.s, .int .i64 f.k, .int .i64 f.l] 40)
      have HBW := HB.alloc hzr (.cells #[.string f.s, .int .i64 f.k, .int .i64 f.l] 40)
      clear hsucc hf hA hAr hown HB
      go_wp2
      obtain ⟨Bf, hBf⟩ : ∃ b, wr.heap.size = b := ⟨_, rfl⟩
      have hWs : Bf < (wr.alloc (.cells #[.string f.s, .int .i64 f.k, .int .i64 f.l] 40)).heap.size := by rw [← hBf]; simp
      rw [hBf] at F0a F0b F0c hzr ⊢
      have hne1 : some Bf ≠ u4.ownBlock := fun e => by have := hlt0 _ e.symm; omega
      obtain ⟨W, hW⟩ : ∃ W, wr.alloc (.cells #[.string f.s, .int .i64 f.k, .int .i64 f.l] 40) = W := ⟨_, rfl⟩
      rw [hW] at F0a F0b F0c hWs hownW HBW ⊢
      clear hW hBf hlt0
      have hsW : w.heap.size ≤ W.heap.size := by omega
      have hn1 : ∀ j u, [Value.int .u8 (f.s.size : Int)][j]? = some u → (W.alloc (.cells #[.int .u8 (f.s.size : Int)] 5)).drew.cell? ((⟨W.heap.size, 0, none⟩ : Addr).add j) = some u := news1 W (.int .u8 (f.s.size : Int)) 5
      have hwr : IntKind.u8.wrap (f.s.size : Int) = (f.s.size : Int) := IntWalk.u8_in _ (by omega)
      have tok1 := True.intro
      go_region_held3 (fun w' => w'.cell? ⟨Bf, 0, none⟩ = some (.string f.s) ∧ w'.cell? ⟨Bf, 1, none⟩ = some (.int .i64 f.k) ∧ w'.cell? ⟨Bf, 2, none⟩ = some (.int .i64 f.l))
        (first | go_keep | (go_split_ands; refine ⟨?_, ?_, ?_⟩ <;> (first | (rw [hgrow2.cell_far _ (by simp; omega) hne2]; assumption) | (rw [hgrow1.cell_far _ (by simp; omega) hne1]; assumption))))
        (first
          | (have _t := tok1; refine step_append_lies _ (by rfl) _ _ _ (by rfl) w.heap.size 5 i0 (.int .u8 0) 1 1 Try.underlying30 hi hz0 hz1 hz2 rfl (by omega) u4 (partF fs k).length (bytesV (partF fs k)) (by rfl) ((hownW.alloc _).drew) ⟨W.heap.size, 0, none⟩ 1 1 [.int .u8 (f.s.size : Int)] (by rfl) (by rfl) hn1 (by simp [Value.oneCell']) (by omega) (by unfold maxLen; omega) (by omega) (by simp; omega) (W.heap.size + 1) (by simp) ?_; intro g cap w2 hown2 hgrow1 hat hlt2; clear tok1; have tok2 := True.intro; have hne2 := ne_of_at hne1 hat hWs; have hs2 := hgrow1.size; simp at hs2; have hs3 : w.heap.size ≤ w2.heap.size := Nat.le_trans hsW (Nat.le_of_succ_le hs2))
          | (have _t := tok2; refine step_append_str (by rfl) _ _ _ _ (by rfl) w.heap.size 5 i0 Try.underlying30 Try.underlying9 hi hz0 hz1 hz2 (.slice (some ⟨g, 0, none⟩) ((partF fs k).length + 1) cap) ((partF fs k).length + 1) _ (by rfl) hown2 f.s (by rfl) (by unfold maxLen; omega) (by omega) hs3 ?_; intro v3 w3 hown3 hgrow2; clear tok2))
      obtain ⟨d0, d1, d2⟩ : w3.cell? ⟨Bf, 0, none⟩ = some (.string f.s) ∧ w3.cell? ⟨Bf, 1, none⟩ = some (.int .i64 f.k) ∧ w3.cell? ⟨Bf, 2, none⟩ = some (.int .i64 f.l) := by assumption
      have HB2 : Below w.heap.size w w2 := Below.grown (w := (W.alloc (.cells #[.int .u8 (f.s.size : Int)] 5)).drew) (HBW.alloc hsW _).drew hgrow1 (Nat.le_trans hsW (by simp)) (fun q hq => own_base hownW q hq)
      have HB3 : Below w.heap.size w w3 := HB2.grown hgrow2 hs3 (fun q hq => own_base hown2 q hq)
      have hs4 := HB3.size
      have hown4 : w3.ownsRow w.heap.size 5 1 v3 ((partF fs k).length + 1 + f.s.size) (bytesV (partF fs k ++ (UInt8.ofNat f.s.size :: bl f.s))) := by
        refine own_eq hown3 rfl ?_
        have e : UInt8.ofNat f.s.size :: bl f.s = [UInt8.ofNat f.s.size] ++ bl f.s := rfl
        rw [e, bytesV_append, bytesV_append, List.append_assoc]
        have e2 : bytesV [UInt8.ofNat f.s.size] = [Value.int .u8 (f.s.size : Int)] := by simp [bytesV]; omega
        rw [e2]; rfl
      clear hwr hown3 hgrow2 hgrow1 hown2 hownW HBW F0a F0b F0c hne1 hne2 hs2 hs3 hn1 hat hlt2 HB2 hWs
      go_wp2_with (at_builtin; refine wpList_append_own _ rfl _ _ 30 rfl w.heap.size 5 i0 (.int .u8 0) 1 1 Try.underlying30 hi hz0 hz1 hz2 rfl (by decide) _ _ _ rfl (hown4.alloc _) ⟨w3.heap.size, 0, none⟩ 2 2 [.int .u8 f.k, .int .u8 f.l] rfl rfl ?c1 ?c2 ?c3 ?c4 ?c5 ?_)
      case c1 => exact news2 _ _ _ _
      case c2 => intro u hu; simp at hu; rcases hu with rfl | rfl <;> rfl
      case c3 => simp only [maxLen]; omega
      case c4 => omega
      case c5 => simp; omega
      intro v5 w5 hown5 hgrow5 _
      have HB5 := (HB3.alloc hs4 (.cells #[.int .u8 f.k, .int .u8 f.l] 5)).grown hgrow5 (by simp; omega) (fun q hq => own_base hown4 q hq)
      have hown6 : w5.ownsRow w.heap.size 5 1 v5 (partF fs (k + 1)).length (bytesV (partF fs (k + 1))) := by
        refine own_eq hown5 ?_ ?_
        · rw [HS.out, List.length_append, rowF_length]; omega
        · rw [HS.out, rowF, ← List.cons_append, ← List.append_assoc, bytesV_append (_ ++ _)]
          congr 1
          simp [bytesV]; omega
      clear hown5 hgrow5 hown4 HB3
      go_wp2
      go_roundw
      case rel => exact ⟨k + 1, by omega, by go_num, hown6, HB5⟩
      case measure => simp [intOf]; omega
    · obtain rfl : k = fs.length := by omega
      have e : partF fs fs.length = encFL fs := by rw [partF, List.take_length]; rfl
      rw [e] at hown
      clear hA hAr e
      go_wp2
      go_ret2
      exact ⟨_, rfl, hown, HB⟩
/-- what is written, and what is amiss -/
def wrL (fs : List Fd) : List UInt8 := if rightF fs = true then encFL fs else []
def wrE (fs : List Fd) : Int := if rightF fs = true then 0 else 60
theorem FEncode_calls (A : Option Addr) (c : Nat) (fs : List Fd) (w : World) (hA : Rd w A (cellsF fs)) (hl : fs.length ≤ 9223372036854775807) :
    Calls Try.prog 31 #[.slice A fs.length c] w fun e w' => ∃ v, e = .returned (.tuple #[v, .int .i64 (wrE fs)]) ∧ OutB w' v (wrL fs) ∧ Below w.heap.size w w' := by
  cases hr : rightF fs
  · have e1 : wrL fs = [] := by simp [wrL, hr]
    have e2 : wrE fs = 60 := by simp [wrE, hr]
    rw [e1, e2]
    refine (FEncode_no A c fs hr w hA hl).mono ?_
    rintro e w' ⟨rfl, hb⟩
    exact ⟨_, rfl, ⟨none, 0, rfl, Nat.le_refl _, Rd.nil _ _⟩, hb⟩
  · have e1 : wrL fs = encFL fs := by simp [wrL, hr]
    have e2 : wrE fs = 0 := by simp [wrE, hr]
    rw [e1, e2]
    refine (FEncode_yes A c fs hr w hA hl).mono ?_
    rintro e w' ⟨v, rfl, ho, hb⟩
    obtain ⟨B, c', rfl, h1, _, h2⟩ := own_rd ho
    exact ⟨_, rfl, ⟨B, c', rfl, h1, h2⟩, hb⟩
end Go.Proofs.Ytepfabijmhhhcaa
