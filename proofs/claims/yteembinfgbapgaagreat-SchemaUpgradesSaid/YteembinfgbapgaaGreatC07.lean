/- Merged out of: Ge Gf Gg Gh Gi. -/
import Derived.Test.YteembinfgbapgaaGreatC00
import Derived.Test.YteembinfgbapgaaGreatC02
import Derived.Test.YteembinfgbapgaaGreatC06
import Derived.RangeFuncNested
import Derived.RangeFuncBox
import Derived.RangeFuncLeaves
import Derived.RangeFuncCalls
import Derived.Shelf.Abstract
import Derived.OwnWalkIn
import Derived.TacticsInMore
import Derived.LoopNIn
import Derived.LoopIn
import Derived.Maps.AppendAt
set_option linter.unusedSimpArgs false
set_option linter.unusedVariables false
set_option maxRecDepth 100000
set_option maxHeartbeats 8000000
namespace Go.Proofs.YteembinfgbapgaaGreat
section
open Go.RowKit
theorem long_zero (k l:Int):longZ k l=0↔mayB k l=false:=by
 cases hm:mayB k l
 ·simp[longZ,hm]
 ·simp only[Bool.true_eq_false,iff_false]
  by_cases hk:k=12
  ·subst hk
   have:=btw_iff.1 (mayB_12▸hm)
   rw[long_12 hm];omega
  ·have:=long_cases hm hk;omega
theorem long_ge (k l:Int):0≤longZ k l∧longZ k l≤64:=by
 cases hm:mayB k l
 ·have:=(long_zero k l).2 hm;omega
 ·by_cases hk:k=12
  ·subst hk
   have:=btw_iff.1 (mayB_12▸hm)
   rw[long_12 hm];omega
  ·have:=long_cases hm hk;omega
def okF (fs:List Fd) (i:Nat) (f:Fd):Bool:=nameB f.s && mayB f.k f.l && decide (findZ fs f.s=i)
def rightF (fs:List Fd):Bool:=decide (∀i,∀h:i<fs.length,okF fs i (fs[i]'h)=true) && decide (fs.length≤16)
theorem rightF_bad {fs:List Fd} {i:Nat} {f:Fd} (hi:fs[i]?=some f) (h:okF fs i f=false):rightF fs=false:=by
 rw[rightF,decide_eq_false,Bool.false_and]
 intro ha
 obtain⟨hi1,hi2⟩:=J6.1 hi
 have:=ha i hi1
 rw[hi2,h] at this;cases this
theorem rightF_end {fs:List Fd} (h:∀i f,i<fs.length→fs[i]?=some f→okF fs i f=true):rightF fs=decide (fs.length≤16):=by
 rw[rightF,decide_eq_true (fun i hi=>h i _ hi (J4 hi)),Bool.true_and]
theorem findZ_le (fs:List Fd) (nm:ByteArray) (k:Nat) (f:Fd) (hk:fs[k]?=some f) (h:f.s=nm):0≤findZ fs nm∧findZ fs nm≤k:=by
 induction fs generalizing k with
 |nil=>simp at hk
 |cons g r ih=>
  rw[findZ]
  split
  ·omega
  ·cases k with
   |zero=>simp at hk;subst hk;contradiction
   |succ k=>
    have:=ih k (by simpa using hk)
    split <;> omega
theorem Name_is (s:ByteArray) (r:Bool) (h:nameB s=r) (w:World):Calls Tryz.prog 50 #[.string s] w fun e w'=>e=.returned (.bool r)∧Below w.heap.size w w':=h▸Name_calls s w
theorem rName_is (s:ByteArray) (hs:s.size≤9223372036854775807) (r:Bool) (h:nameB s=r) (w:World):Calls Tryz.prog 57 #[.string s] w fun e w'=>e=.returned (.bool r)∧Below w.heap.size w w':=h▸rName_calls s hs w
theorem Find_is (A:Option Addr) (c:Nat) (fs:List Fd) (nm:ByteArray) (r:Int) (h:findZ fs nm=r) (w:World) (hA:Rd w A (cellsF fs)) (hl:fs.length≤9223372036854775807):
 Calls Tryz.prog 96 #[.slice A fs.length c,.string nm] w fun e w'=>e=.returned (.int .i64 r)∧Below w.heap.size w w':=h▸Find_calls A c fs nm w hA hl
theorem rFind_is (A:Option Addr) (c:Nat) (fs:List Fd) (nm:ByteArray) (r:Int) (h:findZ fs nm=r) (w:World) (hA:Rd w A (cellsF fs)) (hl:fs.length≤9223372036854775807):
 Calls Tryz.prog 114 #[.slice A fs.length c,.string nm] w fun e w'=>e=.returned (.int .i64 r)∧w=w':=h▸rFind_calls A c fs nm w hA hl
theorem Rd.fld {w:World} {A:Option Addr} {fs:List Fd} (h:Rd w A (cellsF fs)) {k:Nat} {f:Fd} (hf:fs[k]?=some f):∃ad,A=some ad∧w.cell? (ad.add (k * 3))=some (.string f.s)∧w.cell? ⟨(ad.add (k * 3)).block,(ad.add (k * 3)).off+(0+1),none⟩=some (.int .i64 f.k)∧w.cell? ⟨(ad.add (k * 3)).block,(ad.add (k * 3)).off+(1+1),none⟩=some (.int .i64 f.l):=by
 obtain⟨g0,g1,g2⟩:=cellsF_get fs k f hf
 obtain⟨ad,rfl,h0⟩:=h.at g0
 obtain⟨_,e1,h1⟩:=h.at g1
 obtain⟨_,e2,h2⟩:=h.at g2
 cases e1;cases e2
 rw[add_part _ _ 0] at h1
 rw[add_part _ _ 1] at h2
 exact⟨ad,rfl,h0,h1,h2⟩
theorem okF_split (fs:List Fd) (k:Nat) (f:Fd):okF fs k f=false∧nameB f.s=false∨okF fs k f=false∧nameB f.s=true∧mayB f.k f.l=false∨okF fs k f=false∧nameB f.s=true∧mayB f.k f.l=true∧¬findZ fs f.s=k∨okF fs k f=true∧nameB f.s=true∧mayB f.k f.l=true∧findZ fs f.s=k:=by
 unfold okF
 cases nameB f.s <;> cases mayB f.k f.l <;> by_cases h:findZ fs f.s=k <;> simp[h]
theorem FRight_calls (A:Option Addr) (c:Nat) (fs:List Fd) (w:World) (hA:Rd w A (cellsF fs)) (hl:fs.length≤9223372036854775807):
 Calls Tryz.prog 62 #[.slice A fs.length c] w fun e w'=>e=.returned (.bool (rightF fs))∧Below w.heap.size w w':=by
 obtain⟨r,hr⟩:∃r,rightF fs=r:=⟨_,rfl⟩
 rw[hr]
 have HR:=J0 hr
 clear hr
 go_enter Tryz.func62,Tryz.ntmps62
 go_wp2
 go_loopw [3,4,7] (fun _ _ i wr=>∃k:Nat,k≤fs.length∧i=.int .i64 k∧Below w.heap.size w wr∧Hid (∀i f,i<k→fs[i]?=some f→okF fs i f=true)) (fun _ _ i _=>fs.length - (intOf i).toNat)
 case atStart=>exact⟨0,by omega,rfl,Jy _ _,J0 fun i f h=>by omega⟩
 case round=>
  obtain⟨k,hk,rfl,HB,hall⟩:=hrel
  have hAr:=hA.below HB
  by_cases hlt:k<fs.length
  ·obtain⟨f,hf⟩:∃f,fs[k]?=some f:=⟨_,J4 hlt⟩
   obtain⟨ad,rfl,h0,h1,h2⟩:=hAr.fld hf
   have hB1:=HB.alloc HB.size (.cells #[.string f.s,.int .i64 f.k,.int .i64 f.l] 68)
   have F0:=FBox.new wr f.s f.k f.l
   have hA1:=hAr.below (below_new (.cells #[.string f.s,.int .i64 f.k,.int .i64 f.l] 68))
   clear hA hAr
   rcases okF_split fs k f with ⟨ho,hn⟩|⟨ho,hn,hm⟩|⟨ho,hn,hm,hz⟩|⟨ho,hn,hm,hz⟩
   ·obtain rfl:r=false:=HR.out.symm.trans (rightF_bad hf ho)
    have HN:=J0 hn
    clear ho hn hf HR hA1
    go_wp2_with (go_at_call 50;refine(Name_is _ _ HN.out _).mono ?_;rintro e w1 ⟨rfl,hb1⟩)
    go_ret
    exact⟨rfl,hB1.trans (hb1.mono hB1.size)⟩
   ·obtain rfl:r=false:=HR.out.symm.trans (rightF_bad hf ho)
    have HN:=J0 hn
    have HL:=J0 ((long_zero _ _).2 hm)
    clear ho hn hf HR hA1 hm
    go_wp2_with (first
     |(go_at_call 50;refine(Name_is _ _ HN.out _).mono ?_;rintro e w1 ⟨rfl,hb1⟩;obtain⟨c0,c1,c2⟩:=F0.below hb1;clear F0)
     |(go_at_call 89;refine(Long_is _ _ _ _ HL.out _).mono ?_;rintro e w2 ⟨rfl,hb2⟩))
    go_ret
    exact⟨rfl,(hB1.trans (hb1.mono hB1.size)).trans (hb2.mono (Q7 hB1.size hb1.size))⟩
   ·obtain rfl:r=false:=HR.out.symm.trans (rightF_bad hf ho)
    have HN:=J0 hn
    obtain⟨z,hz2⟩:∃z,findZ fs f.s=z:=⟨_,rfl⟩
    obtain⟨y,hy2⟩:∃y,longZ f.k f.l=y:=⟨_,rfl⟩
    have ht:(z != (k:Int))=true:=by rw[←hz2];simpa using hz
    have hy:(y == 0)=false:=by
     rw[←hy2,beq_eq_false_iff_ne]
     intro h;rw[(long_zero _ _).1 h] at hm;cases hm
    have HL:=J0 hy2
    have HZ:=J0 hz2
    clear ho hn hf HR hm hz hz2 hy2
    go_wp2_with (first
     |(go_at_call 50;refine(Name_is _ _ HN.out _).mono ?_;rintro e w1 ⟨rfl,hb1⟩;obtain⟨c0,c1,c2⟩:=F0.below hb1;clear F0)
     |(go_at_call 89;refine(Long_is _ _ _ _ HL.out _).mono ?_;rintro e w2 ⟨rfl,hb2⟩;obtain⟨d0,d1,d2⟩:=FBox.below ⟨c0,c1,c2⟩ hb2;clear c0 c1 c2)
     |(go_at_call 96;refine(Find_is _ _ _ _ _ HZ.out _ ((hA1.below hb1).below hb2) hl).mono ?_;rintro e w3 ⟨rfl,hb3⟩))
    go_ret
    exact⟨rfl,((hB1.trans (hb1.mono hB1.size)).trans (hb2.mono (Q7 hB1.size hb1.size))).trans (hb3.mono (Q7 hB1.size (Q7 hb1.size hb2.size)))⟩
   ·have hall2:Hid (∀i f,i<k+1→fs[i]?=some f→okF fs i f=true):=J0 fun i g hi hg=>by
     rcases(by omega:i<k∨i=k) with h2|rfl
     ·exact hall.out i g h2 hg
     ·rw[hf] at hg;cases hg;exact ho
    have HN:=J0 hn
    obtain⟨z,hz2⟩:∃z,findZ fs f.s=z:=⟨_,rfl⟩
    obtain⟨y,hy2⟩:∃y,longZ f.k f.l=y:=⟨_,rfl⟩
    have ht:(z != (k:Int))=false:=by rw[←hz2,hz];simp
    have hy:(y == 0)=false:=by
     rw[←hy2,beq_eq_false_iff_ne]
     intro h;rw[(long_zero _ _).1 h] at hm;cases hm
    have HL:=J0 hy2
    have HZ:=J0 hz2
    clear ho hn hf HR hm hz hz2 hy2 hall
    go_wp2_with (first
     |(go_at_call 50;refine(Name_is _ _ HN.out _).mono ?_;rintro e w1 ⟨rfl,hb1⟩;obtain⟨c0,c1,c2⟩:=F0.below hb1;clear F0)
     |(go_at_call 89;refine(Long_is _ _ _ _ HL.out _).mono ?_;rintro e w2 ⟨rfl,hb2⟩;obtain⟨d0,d1,d2⟩:=FBox.below ⟨c0,c1,c2⟩ hb2;clear c0 c1 c2)
     |(go_at_call 96;refine(Find_is _ _ _ _ _ HZ.out _ ((hA1.below hb1).below hb2) hl).mono ?_;rintro e w3 ⟨rfl,hb3⟩))
    go_roundw
    case rel=>exact⟨k+1,by omega,by go_num,((hB1.trans (hb1.mono hB1.size)).trans (hb2.mono (Q7 hB1.size hb1.size))).trans (hb3.mono (Q7 hB1.size (Q7 hb1.size hb2.size))),hall2⟩
    case measure=>simp[intOf];omega
  ·obtain rfl:k=fs.length:=by omega
   have hn:=rightF_end hall.out
   rw[HR.out] at hn
   subst hn
   clear HR hall hAr hA
   go_wp2
   go_ret
   refine⟨ret_bool ?_,HB⟩
   rw[Qx]
   simp only[decide_eq_true_eq]
   constructor <;> intro h <;> omega
theorem rFRight_calls (A:Option Addr) (c:Nat) (fs:List Fd) (w:World) (hA:Rd w A (cellsF fs)) (hl:fs.length≤9223372036854775807) (hs:∀f∈fs,f.s.size≤9223372036854775807):
 Calls Tryz.prog 77 #[.slice A fs.length c] w fun e w'=>e=.returned (.bool (rightF fs))∧Below w.heap.size w w':=by
 obtain⟨r,hr⟩:∃r,rightF fs=r:=⟨_,rfl⟩
 rw[hr]
 have HR:=J0 hr
 clear hr
 go_enter Tryz.func77,Tryz.ntmps77
 go_wp2
 go_loopw [3] (fun i wr=>∃k:Nat,k≤fs.length∧i=.int .i64 k∧Below w.heap.size w wr∧Hid (∀i f,i<k→fs[i]?=some f→okF fs i f=true)) (fun i _=>fs.length - (intOf i).toNat)
 case atStart=>exact⟨0,by omega,rfl,Jy _ _,J0 fun i f h=>by omega⟩
 case round=>
  obtain⟨k,hk,rfl,HB,hall⟩:=hrel
  have hAr:=hA.below HB
  by_cases hlt:k<fs.length
  ·obtain⟨f,hf⟩:∃f,fs[k]?=some f:=⟨_,J4 hlt⟩
   have hsz:=hs f (J7 hf)
   obtain⟨ad,rfl,h0,h1,h2⟩:=hAr.fld hf
   clear hA hs
   rcases okF_split fs k f with ⟨ho,hn⟩|⟨ho,hn,hm⟩|⟨ho,hn,hm,hz⟩|⟨ho,hn,hm,hz⟩
   ·obtain rfl:r=false:=HR.out.symm.trans (rightF_bad hf ho)
    have HN:=J0 hn
    clear ho hn hf HR hAr
    go_wp2_with (go_at_call 57;refine(rName_is _ hsz _ HN.out _).mono ?_;rintro e w1 ⟨rfl,hb1⟩)
    go_ret
    exact⟨rfl,HB.trans (hb1.mono HB.size)⟩
   ·obtain rfl:r=false:=HR.out.symm.trans (rightF_bad hf ho)
    have HN:=J0 hn
    have HL:=J0 hm
    clear ho hn hf HR hm
    go_wp2_with (first
     |(go_at_call 57;refine(rName_is _ hsz _ HN.out _).mono ?_;rintro e w1 ⟨rfl,hb1⟩;have c0:=cell_below (B:=0) hb1 h0;have c1:=cell_below (B:=0) hb1 h1;have c2:=cell_below (B:=0) hb1 h2;clear h0 h1 h2)
     |(go_at_call 113;refine(rMay_is _ _ _ _ HL.out _).mono ?_;rintro e w2 ⟨rfl,hb2⟩))
    go_ret
    exact⟨rfl,(HB.trans (hb1.mono HB.size)).trans (hb2.mono (Q7 HB.size hb1.size))⟩
   ·obtain rfl:r=false:=HR.out.symm.trans (rightF_bad hf ho)
    have HN:=J0 hn
    have HL:=J0 hm
    have hle:=findZ_le fs f.s k f hf rfl
    obtain⟨z,hz2⟩:∃z,findZ fs f.s=z:=⟨_,rfl⟩
    rw[hz2] at hle
    have ht:decide (z<(k:Int))=true:=by rw[hz2] at hz;simp;omega
    have HZ:=J0 hz2
    clear ho hn hf HR hm hz hz2
    go_wp2_with (first
     |(go_at_call 57;refine(rName_is _ hsz _ HN.out _).mono ?_;rintro e w1 ⟨rfl,hb1⟩;have c0:=cell_below (B:=0) hb1 h0;have c1:=cell_below (B:=0) hb1 h1;have c2:=cell_below (B:=0) hb1 h2;clear h0 h1 h2)
     |(go_at_call 113;refine(rMay_is _ _ _ _ HL.out _).mono ?_;rintro e w2 ⟨rfl,hb2⟩;have d0:=cell_below (B:=0) hb2 c0;clear c0 c1 c2)
     |(go_at_call 114;refine(rFind_is _ _ _ _ _ HZ.out _ ((hAr.below hb1).below hb2) hl).mono ?_;rintro e w3 ⟨rfl,rfl⟩))
    go_ret
    exact⟨rfl,(HB.trans (hb1.mono HB.size)).trans (hb2.mono (Q7 HB.size hb1.size))⟩
   ·have hall2:Hid (∀i f,i<k+1→fs[i]?=some f→okF fs i f=true):=J0 fun i g hi hg=>by
     rcases(by omega:i<k∨i=k) with h2|rfl
     ·exact hall.out i g h2 hg
     ·rw[hf] at hg;cases hg;exact ho
    have HN:=J0 hn
    have HL:=J0 hm
    obtain⟨z,hz2⟩:∃z,findZ fs f.s=z:=⟨_,rfl⟩
    have ht:decide (z<(k:Int))=false:=by rw[←hz2,hz];simp
    have HZ:=J0 hz2
    clear ho hn hf HR hm hz hz2 hall
    go_wp2_with (first
     |(go_at_call 57;refine(rName_is _ hsz _ HN.out _).mono ?_;rintro e w1 ⟨rfl,hb1⟩;have c0:=cell_below (B:=0) hb1 h0;have c1:=cell_below (B:=0) hb1 h1;have c2:=cell_below (B:=0) hb1 h2;clear h0 h1 h2)
     |(go_at_call 113;refine(rMay_is _ _ _ _ HL.out _).mono ?_;rintro e w2 ⟨rfl,hb2⟩;have d0:=cell_below (B:=0) hb2 c0;clear c0 c1 c2)
     |(go_at_call 114;refine(rFind_is _ _ _ _ _ HZ.out _ ((hAr.below hb1).below hb2) hl).mono ?_;rintro e w3 ⟨rfl,rfl⟩))
    go_roundw
    case rel=>exact⟨k+1,by omega,by go_num,(HB.trans (hb1.mono HB.size)).trans (hb2.mono (Q7 HB.size hb1.size)),hall2⟩
    case measure=>simp[intOf];omega
  ·obtain rfl:k=fs.length:=by omega
   have hn:=rightF_end hall.out
   rw[HR.out] at hn
   subst hn
   clear HR hall hAr hA
   go_wp2
   go_ret
   refine⟨ret_bool ?_,HB⟩
   rw[Qx]
   simp only[decide_eq_true_eq]
   constructor <;> intro h <;> omega
def Fd.n (f:Fd):Nat:=(longZ f.k f.l).toNat
theorem Fd.n_eq (f:Fd):(f.n:Int)=longZ f.k f.l:=by have:=long_ge f.k f.l;unfold Fd.n;omega
theorem Fd.n_le (f:Fd):f.n≤64:=by have:=long_ge f.k f.l;unfold Fd.n;omega
theorem Fd.n_pos {f:Fd} (h:mayB f.k f.l=true):0<f.n:=by
 have:=long_ge f.k f.l
 have:¬longZ f.k f.l=0:=fun e=>by rw[(long_zero _ _).1 e] at h;cases h
 unfold Fd.n;omega
def atF (nx:Nat) (f:Fd):Nat:=if f.k=12 then nx else upN nx f.n
def endF:Nat→List Fd→Nat
 |nx,[]=>nx
 |nx,f :: r=>endF (atF nx f+f.n) r
def seqF:Nat→List Fd→List (Nat×Fd)
 |_,[]=>[]
 |nx,f :: r=>(atF nx f,f) :: seqF (atF nx f+f.n) r
theorem endF_snoc (nx:Nat) (a:List Fd) (f:Fd):endF nx (a++[f])=atF (endF nx a) f+f.n:=by
 induction a generalizing nx with
 |nil=>rfl
 |cons g r ih=>exact ih _
theorem seqF_snoc (nx:Nat) (a:List Fd) (f:Fd):seqF nx (a++[f])=seqF nx a++[(atF (endF nx a) f,f)]:=by
 induction a generalizing nx with
 |nil=>rfl
 |cons g r ih=>simp only[List.cons_append,seqF,ih,endF]
theorem seqF_length (nx:Nat) (a:List Fd):(seqF nx a).length=a.length:=by
 induction a generalizing nx with
 |nil=>rfl
 |cons g r ih=>simp[seqF,ih]
def MayF (fs:List Fd):Prop:=∀f∈fs,mayB f.k f.l=true
theorem upN_le (a n:Nat) (h:0<n):upN a n≤a+n - 1∧a≤upN a n:=by
 unfold upN
 have h1:=Nat.div_mul_le_self (a+n - 1) n
 have h2:=Nat.lt_div_mul_add h (a:=a+n - 1)
 omega
theorem atF_le {nx:Nat} {f:Fd} (h:mayB f.k f.l=true):atF nx f≤nx+63∧nx≤atF nx f:=by
 unfold atF
 split
 ·omega
 ·have:=upN_le nx f.n (Fd.n_pos h)
  have:=f.n_le
  omega
theorem endF_le {nx:Nat} {fs:List Fd} (h:MayF fs):endF nx fs≤nx+128 * fs.length:=by
 induction fs generalizing nx with
 |nil=>simp[endF]
 |cons g r ih=>
  have h1:=atF_le (nx:=nx) (h g (List.mem_cons_self ..))
  have h2:=g.n_le
  have h3:=ih (nx:=atF nx g+g.n) (fun f hf=>h f (List.mem_cons_of_mem _ hf))
  rw[endF,Xx];omega
theorem MayF.take {fs:List Fd} (h:MayF fs) (k:Nat):MayF (fs.take k):=fun f hf=>h f (List.mem_of_mem_take hf)
abbrev PF:={ x:Nat×Fd // x.1≤1000000 }
def encPF (x:PF):Array Value:=#[.int .i64 (x.1.1:Int),.agg #[.string x.1.2.s,.int .i64 x.1.2.k,.int .i64 x.1.2.l]]
structure KpF (n₀:Nat) (W W':World):Prop where
 below:Below n₀ W W'
 fld:∀(b:Nat) (cs:Array Value) (d:Nat×Nat),W.heap[b]?=some (.cells cs 68 d)→W'.heap[b]?=some (.cells cs 68 d)
theorem KpF.trans {n₀:Nat} {A B C:World} (h:KpF n₀ A B) (k:KpF n₀ B C):KpF n₀ A C:=⟨h.below.trans k.below,fun b cs d hb=>k.fld b cs d (h.fld b cs d hb)⟩
theorem KpF.of_below {n₀:Nat} {A B:World} (h:Below A.heap.size A B) (hn:n₀≤A.heap.size):KpF n₀ A B:=⟨h.mono hn,fun b cs d hb=>(h.block b (Qk.1 hb).1).trans hb⟩
theorem KpF.putObj {n₀:Nat} {w:World} (hn:n₀≤w.heap.size) (W:World) (l:Nat) (o o':Obj) (hl:w.heap.size≤l) (h:W.heap[l]?=some o) (hc:o.isCells=false) (hw:o.isWalk=false):KpF n₀ W (W.putObj l o'):=
 ⟨belowK_b hn W l o o' hl h hc hw,fun b cs d hb=>by
  have hne:b≠l:=by rintro rfl;rw[h] at hb;cases hb;cases hc
  exact(World.putObj_heap_other (by omega)).trans hb⟩
theorem places_calls (A:Option Addr) (n c:Nat) (w:World):
 CallsIn Fence.wide 3 Tryz.prog 104 #[.slice A n c] w fun e w'=>e=.returned (.func (.func 156) #[] #[.pointer (some ⟨w.heap.size,0,none⟩)])∧w'=w.alloc (.cells #[.slice A n c] 27):=by
 rw[callsIn_wide]
 have hmf:∀(fn:Fn) (first cap:Array Value) (w:World),(Instr.makeFunc fn first cap).run Tryz.prog w=.ok (.func fn first cap) w:=fun _ _ _ _=>rfl
 go_enter Tryz.func104,Tryz.ntmps104
 go_wp2
 go_ret
 exact⟨rfl,rfl⟩
theorem grown_of_below {w w':World} (h:Below w.heap.size w w'):w.grownBy w' none:=⟨h.os,h.tape,h.output,h.size,fun k hk _=>h.block k hk⟩
attribute [local go_sem] Oper.semAt_some
theorem seqF_take {fs:List Fd} {k:Nat} {f:Fd} (hf:fs[k]?=some f):seqF 0 (fs.take (k+1))=seqF 0 (fs.take k)++[(atF (endF 0 (fs.take k)) f,f)]∧endF 0 (fs.take (k+1))=atF (endF 0 (fs.take k)) f+f.n:=by
 have e:fs.take (k+1)=fs.take k++[f]:=by rw[Vq,hf];rfl
 rw[e,seqF_snoc,endF_snoc]
 exact⟨rfl,rfl⟩
theorem FBox.of {W:World} {b:Nat} {s:ByteArray} {k l:Int} {d:Nat×Nat} (h:W.heap[b]?=some (.cells #[.string s,.int .i64 k,.int .i64 l] 68 d)):FBox W b s k l:=by
 refine⟨?_,?_,?_⟩ <;> simp[World.cell?,h]
set_option maxRecDepth 100000 in
theorem places1_in (n:Nat) (hn:1≤n) (l Bl:Nat) (A:Option Addr) (c:Nat) (fs:List Fd) (hmay:MayF fs) (hlen:fs.length≤16) (w0:World) (hA:Rd w0 A (cellsF fs)) (J Jx:List PF→World→Prop) (W:World)
 (hJ:AbidesFrom W.heap.size J)
 (hY:∀pre x W1,J pre W1→pre.length<fs.length→YieldAt Fence.wide (n - 1) Tryz.prog l (encPF x) W1 fun e W'=>
   (e=.returned (.bool true)∧J (pre++[x]) W'∧KpF w0.heap.size W1 W')∨(e=.returned (.bool false)∧Jx (pre++[x]) W'))
 (hBl:W.cell? ⟨Bl,0,none⟩=some (.slice A fs.length c)) (hW:Below w0.heap.size w0 W) (h0:J [] W):
 CallsIn Fence.wide n Tryz.prog 156 #[.func (.yield l) #[] #[],.pointer (some ⟨Bl,0,none⟩)] W fun e W'=>(∃v,e=.returned v)∧
  ((∃ys,ys.map Subtype.val=seqF 0 fs∧J ys W')∨(∃pre,True∧Jx pre W')):=by
 refine callsIn_of_wp Tryz.func156 rfl trivial ?_ rfl
 simp only[Tryz.ntmps156,List.size_toArray,Xx,List.length_nil,Nat.reduceAdd,Nat.reduceSub,Array.replicate_succ,Array.replicate_zero,List.push_toArray,List.append_toArray,List.nil_append,List.cons_append]
 gi_wp2
 gi_loopw [3,5,8] (fun nx _ i wr=>∃(k:Nat) (pre:List PF),k≤fs.length∧i=.int .i64 k∧nx=.int .i64 (endF 0 (fs.take k):Nat)∧pre.map Subtype.val=seqF 0 (fs.take k)∧J pre wr∧Below w0.heap.size w0 wr) (fun _ _ i _=>fs.length - (intOf i).toNat)
 case atStart=>exact⟨0,[],by omega,rfl,rfl,rfl,h0,hW⟩
 case round=>
  obtain⟨k,pre,hk,rfl,rfl,hpre,hJs,HB⟩:=hrel
  have hAr:=hA.below HB
  by_cases hlt:k<fs.length
  ·obtain⟨f,hf⟩:∃f,fs[k]?=some f:=⟨_,J4 hlt⟩
   obtain⟨ad,rfl,c0,c1,c2⟩:=hAr.fld hf
   have hm:=hmay f (J7 hf)
   have hle:=endF_le (nx:=0) (hmay.take k)
   rw[Qv,Nat.min_eq_left hk] at hle
   obtain⟨e1,e2⟩:=seqF_take hf
   have ha:=atF_le (nx:=endF 0 (fs.take k)) hm
   have hpl:pre.length<fs.length:=by
    have:=congrArg List.length hpre
    rw[Kz,seqF_length,Qv,Nat.min_eq_left hk] at this
    omega
   have hn1:=Fd.n_le f
   have hn0:=Fd.n_pos hm
   have HL:=J0 f.n_eq.symm
   obtain⟨nx,hnx⟩:∃nx,endF 0 (fs.take k)=nx:=⟨_,rfl⟩
   rw[hnx] at e1 e2 ha hle ⊢
   obtain⟨at_,hat⟩:∃a,atF nx f=a:=⟨_,rfl⟩
   rw[hat] at e1 e2 ha
   have E1:=J0 e1
   have E2:=J0 e2
   have HP:=J0 hpre
   have hb0:(wr.alloc (.cells #[.string f.s,.int .i64 f.k,.int .i64 f.l] 68)).heap[wr.heap.size]?=some (.cells #[.string f.s,.int .i64 f.k,.int .i64 f.l] 68 (0,0)):=World.alloc_heap_new wr _
   have hJ0:J pre (wr.alloc (.cells #[.string f.s,.int .i64 f.k,.int .i64 f.l] 68)):=hJ _ _ _ none hJs (World.grownBy_alloc _ _ _) (fun _ h=>by cases h)
   have HB0:=HB.alloc HB.size (.cells #[.string f.s,.int .i64 f.k,.int .i64 f.l] 68)
   clear e1 e2 hpre hnx hf hA hAr hJs
   by_cases hk12:f.k=12
   ·obtain rfl:nx=at_:=by rw[←hat,atF,if_pos hk12]
    clear hat
    have hk12':(f.k != 12)=false:=by rw[hk12];rfl
    obtain⟨fn,tmps,assign,body,hy,hR⟩:=hY _ ⟨(nx,f),by show nx≤_;omega⟩ _ hJ0 hpl
    dsimp only[encPF] at hy
    clear hk12
    gi_wp2
    refine hR.mono ?_
    rintro e W3 (⟨rfl,hJ3,hk3⟩|⟨rfl,hJx3⟩)
    ·obtain⟨d0,d1,d2⟩:=FBox.of (hk3.fld _ _ _ hb0)
     gi_wp2_with (refine⟨trivial,?_⟩;gi_at_call 89;refine(callsIn_wide.2 (Long_is _ _ _ _ HL.out _)).mono ?_;rintro e w4 ⟨rfl,hb4⟩)
     go_roundw
     case rel=>exact⟨k+1,pre++[⟨(nx,f),by show nx≤_;omega⟩],by omega,by go_num,by rw[E2.out];go_num,by rw[List.map_append,HP.out,E1.out];rfl,hJ _ _ _ none hJ3 (grown_of_below hb4) (fun _ h=>by cases h),(HB0.trans hk3.below).trans (hb4.mono (Q7 (Q7 HB0.size hk3.below.size) (J9 _)))⟩
     case measure=>simp[intOf];omega
    ·gi_wp2
     refine bodyPost_ret (results_none rfl _ _ _) rfl ?_
     exact⟨⟨_,rfl⟩,.inr ⟨_,trivial,hJx3⟩⟩
   ·have hup:upN nx f.n=at_:=by rw[←hat,atF,if_neg hk12]
    have HU:=J0 hup
    clear hat hup
    have hk12':(f.k != 12)=true:=by simpa using hk12
    have F0:=FBox.new wr f.s f.k f.l
    have hpl2:pre.length<fs.length:=hpl
    clear hk12
    gi_wp2_with (first
     |(refine⟨trivial,?_⟩;gi_at_call 89;refine(callsIn_wide.2 (Long_is _ _ _ _ HL.out _)).mono ?_;rintro e w2 ⟨rfl,hb2⟩;obtain⟨g0,g1,g2⟩:=F0.below hb2)
     |(refine⟨trivial,?_⟩;gi_at_call 105;refine(callsIn_wide.2 (up_calls nx f.n hn0 (by omega) _)).mono ?_;rintro e w3 ⟨rfl,rfl⟩;rw[HU.out];obtain⟨fn,tmps,assign,body,hy,hR⟩:=hY _ ⟨(at_,f),by show at_≤_;omega⟩ _ (hJ _ _ _ none hJ0 (grown_of_below hb2) (fun _ h=>by cases h)) hpl;dsimp only[encPF] at hy))
    refine hR.mono ?_
    rintro e W3 (⟨rfl,hJ3,hk3⟩|⟨rfl,hJx3⟩)
    ·obtain⟨d0,d1,d2⟩:=FBox.of (hk3.fld _ _ _ ((hb2.block _ (by simp)).trans hb0))
     gi_wp2_with (refine⟨trivial,?_⟩;gi_at_call 89;refine(callsIn_wide.2 (Long_is _ _ _ _ HL.out _)).mono ?_;rintro e w4 ⟨rfl,hb4⟩)
     go_roundw
     case rel=>exact⟨k+1,pre++[⟨(at_,f),by show at_≤_;omega⟩],by omega,by go_num,by rw[E2.out];go_num,by rw[List.map_append,HP.out,E1.out];rfl,hJ _ _ _ none hJ3 (grown_of_below hb4) (fun _ h=>by cases h),((HB0.trans (hb2.mono HB0.size)).trans hk3.below).trans (hb4.mono (Q7 (Q7 HB0.size hb2.size) hk3.below.size))⟩
     case measure=>simp[intOf];omega
    ·gi_wp2
     refine bodyPost_ret (results_none rfl _ _ _) rfl ?_
     exact⟨⟨_,rfl⟩,.inr ⟨_,trivial,hJx3⟩⟩
  ·obtain rfl:k=fs.length:=by omega
   rw[List.take_length] at hpre
   clear hA hAr hJ hY
   gi_wp2
   go_end0
   exact⟨⟨_,rfl⟩,.inl ⟨pre,hpre,hJs⟩⟩
attribute [local go_sem] Oper.semAt_some
theorem places_stops (n:Nat) (hn:1≤n) (Bl:Nat) (A:Option Addr) (c:Nat) (fs:List Fd) (hmay:MayF fs) (hlen:fs.length≤16) (w0 w:World) (hA:Rd w0 A (cellsF fs)) (hb:Below w0.heap.size w0 w) (hBl:w.cell? ⟨Bl,0,none⟩=some (.slice A fs.length c)):
 SeqStopsK Fence.wide n Tryz.prog 156 #[.pointer (some ⟨Bl,0,none⟩)] encPF (KpF w0.heap.size) (fun ys=>ys.map Subtype.val=seqF 0 fs) (fun _=>True) fs.length w:=fun l J Jx W hW hJ _ hY h0=>
 places1_in n hn l Bl A c fs hmay hlen w0 hA J Jx W hJ hY (cell_below (B:=0) hW hBl) (hb.trans (hW.mono hb.size)) h0
def intsV (l:List Nat):List Value:=l.map fun (n:Nat)=>Value.int .i64 (n:Int)
def layL (fs:List Fd):List Nat:=if rightF fs=true then(seqF 0 fs).map Prod.fst else[]
def sizeF (fs:List Fd):Nat:=if rightF fs=true then upN (endF 0 fs) 8 else 0
theorem infoInt:(Tryz.prog.info? 3).map (fun i=>(i.zero,i.size,i.bytes))=some (some (.int .i64 0),1,8):=by kernel_rfl
theorem rightF_may {fs:List Fd} (h:rightF fs=true):MayF fs∧fs.length≤16:=by
 simp only[rightF,Qy,decide_eq_true_eq] at h
 refine⟨fun f hf=>?_,h.2⟩
 obtain⟨i,hi,rfl⟩:=List.getElem_of_mem hf
 have:=h.1 i hi
 simp only[okF,Qy] at this
 exact this.1.2
theorem FRight_is (A:Option Addr) (c:Nat) (fs:List Fd) (r:Bool) (h:rightF fs=r) (w:World) (hA:Rd w A (cellsF fs)) (hl:fs.length≤9223372036854775807):
 Calls Tryz.prog 62 #[.slice A fs.length c] w fun e w'=>e=.returned (.bool r)∧Below w.heap.size w w':=h▸FRight_calls A c fs w hA hl
def lastF:List PF→Nat
 |[]=>0
 |[x]=>x.1.1+x.1.2.n
 |_ :: y :: r=>lastF (y :: r)
theorem lastF_snoc (pre:List PF) (x:PF):lastF (pre++[x])=x.1.1+x.1.2.n:=by
 induction pre with
 |nil=>rfl
 |cons y r ih=>
  cases r with
  |nil=>rfl
  |cons z r=>exact ih
theorem lastF_seq (ys:List PF) (fs:List Fd) (h:ys.map Subtype.val=seqF 0 fs):lastF ys=endF 0 fs:=by
 rcases List.eq_nil_or_concat fs with rfl|⟨fs,f,rfl⟩
 ·have:ys=[]:=by simpa[seqF] using h
  subst this;rfl
 ·rw[List.concat_eq_append,seqF_snoc] at h
  rcases List.eq_nil_or_concat ys with rfl|⟨ys,y,rfl⟩
  ·simp at h
  ·rw[List.concat_eq_append,List.map_append] at h
   have h2:=(List.append_inj' h rfl).2
   simp at h2
   rw[List.concat_eq_append,List.concat_eq_append,lastF_snoc,endF_snoc,h2]
theorem KpF.alloc {n₀:Nat} {W:World} (h:n₀≤W.heap.size) (o:Obj):KpF n₀ W (W.alloc o):=KpF.of_below (below_new o) h
theorem boxed_below {W W':World} {B:Nat} {t:TypeId} {v:Value} (h:Boxed W B t v) (hb:Below W.heap.size W W'):Boxed W' B t v:=(hb.block B h.lt).trans h
theorem KpF.setCell {n₀:Nat} {W:World} {B:Nat} {t:TypeId} {u:Value} (h:Boxed W B t u) (hB:n₀≤B) (ht:t≠68) (v:Value):KpF n₀ W (W.setCell ⟨B,0,none⟩ v):=
 ⟨(Jy _ _).setCell (p:=⟨B,0,none⟩) hB v,fun b cs d hb=>by
   refine(J5 _ _ _ b (fun e=>?_)).trans hb
   have e':b=B:=e
   subst e'
   rw[show W.heap[b]?=_ from h] at hb
   cases hb;exact ht rfl⟩
theorem KeepsOthers.of_below {W W':World} (h:Below W.heap.size W W'):KeepsOthers W W':=KeepsOthers.of_grownBy (grown_of_below h) (fun _ _ e _=>by cases e)
theorem appendedF {W w1:World} {n₀ B1 B2 base:Nat} {v v' u:Value} {k m:Nat} {xs ys:List Value} {tmp:Obj}
 (hv:Boxed W B1 29 v) (h2:Boxed W B2 3 u) (hrow:W.ownsRow base 3 1 v k xs) (hn:n₀≤B1) (h1b:B1<base) (h2b:B2<base) (h12:B1≠B2) (hbase:base≤W.heap.size)
 (hown':w1.ownsRow base 3 1 v' m ys) (hgrow:(W.alloc tmp).grownBy w1 v.ownBlock):
 Boxed w1 B1 29 v∧Boxed (w1.setCell ⟨B1,0,none⟩ v') B1 29 v'∧Boxed (w1.setCell ⟨B1,0,none⟩ v') B2 3 u∧(w1.setCell ⟨B1,0,none⟩ v').ownsRow base 3 1 v' m ys∧KeepsOthers W (w1.setCell ⟨B1,0,none⟩ v')∧KpF n₀ W (w1.setCell ⟨B1,0,none⟩ v'):=by
 have hne:∀{B:Nat},B<base→some B≠v.ownBlock:=fun hB e=>by have:=own_base hrow _ e.symm;omega
 have hne':∀{B:Nat},B<base→some B≠v'.ownBlock:=fun hB e=>by have:=own_base hown' _ e.symm;omega
 have hv1:Boxed w1 B1 29 v:=(hv.alloc tmp).kept hgrow (hne h1b)
 have h21:Boxed w1 B2 3 u:=(h2.alloc tmp).kept hgrow (hne h2b)
 have hko:KeepsOthers W w1:=(KeepsOthers.alloc W tmp).trans (KeepsOthers.of_grownBy hgrow fun j o ej hj=>by
  rcases(hrow.alloc tmp).2 with ⟨rfl,_⟩|⟨g,cap,cur,rfl,_,hgb,_⟩
  ·simp[Value.ownBlock] at ej
  ·obtain rfl:g=j:=by simpa[Value.ownBlock] using ej
   rw[hgb] at hj;cases hj;rfl)
 have hkf:KpF n₀ W w1:=⟨((Jy n₀ W).alloc (by omega) tmp).grown hgrow (by simp;omega) (fun j ej=>by have:=own_base hrow j ej;omega),fun b cs d hb=>by
  have hlt:=(Qk.1 hb).1
  refine(hgrow.block b (by simp;omega) fun e=>?_).trans ((Below.heap_alloc _ _ _ hlt).trans hb)
  rcases hrow.2 with ⟨rfl,_⟩|⟨g,cap,cur,rfl,_,hgb,_⟩
  ·simp[Value.ownBlock] at e
  ·obtain rfl:b=g:=by simpa[Value.ownBlock] using e
   rw[hgb] at hb;cases hb⟩
 exact⟨hv1,hv1.set v',h21.other (Ne.symm h12) _,hown'.kept (grownBy_setCell' w1 B1 v') (.inr (hne' h1b).symm),hko.trans (KeepsOthers.setCell _ _ _),hkf.trans (KpF.setCell hv1 hn (by decide) _)⟩
set_option maxRecDepth 100000 in
theorem Layout_no (A:Option Addr) (c:Nat) (fs:List Fd) (hr:rightF fs=false) (w:World) (hA:Rd w A (cellsF fs)) (hl:fs.length≤9223372036854775807):
 Calls Tryz.prog 70 #[.slice A fs.length c] w fun e w'=>e=.returned (.tuple #[.slice none 0 0,.int .i64 0])∧Below w.heap.size w w':=by
 have HR:=J0 hr
 clear hr
 go_enter Tryz.func70,Tryz.ntmps70
 go_wp2_with (go_at_call 62;refine(FRight_is _ _ _ _ HR.out _ hA hl).mono ?_;rintro e w1 ⟨rfl,hb1⟩)
 go_ret2
 exact⟨rfl,hb1⟩
set_option maxRecDepth 100000 in
theorem Layout_yes (A:Option Addr) (c:Nat) (fs:List Fd) (hr:rightF fs=true) (w:World) (hA:Rd w A (cellsF fs)) (hl:fs.length≤9223372036854775807):
 Calls Tryz.prog 70 #[.slice A fs.length c] w fun e w'=>∃v,e=.returned (.tuple #[v,.int .i64 (upN (endF 0 fs) 8:Nat)])∧w'.ownsRow w.heap.size 3 1 v fs.length (intsV ((seqF 0 fs).map Prod.fst))∧Below w.heap.size w w':=by
 obtain⟨i0,hi,hz0,hz1,hz2⟩:=info_parts infoInt
 obtain⟨hmay,h16⟩:=rightF_may hr
 have hend:=endF_le (nx:=0) hmay
 have HR:=J0 hr
 clear hr
 rw[←callsIn_wide (n:=3)]
 refine callsIn_of_wp_marks Tryz.func70 rfl trivial ?_ rfl
 simp only[Tryz.ntmps70,List.size_toArray,Xx,List.length_nil,Nat.reduceAdd,Nat.reduceSub,Array.replicate_succ,Array.replicate_zero,List.push_toArray,List.append_toArray,List.nil_append,List.cons_append]
 gi_wp2_with (first
  |(refine⟨trivial,?_⟩;gi_at_call 62;refine(callsIn_wide.2 (FRight_is _ _ _ _ HR.out _ hA hl)).mono ?_;rintro e w1 ⟨rfl,hb1⟩)
  |(refine⟨trivial,?_⟩;gi_at_call 104;refine(callsIn_wide.2 (callsIn_wide.1 (places_calls A fs.length c _))).mono ?_;rintro e w2 ⟨rfl,rfl⟩))
 have b1:=((Boxed.new w1 29 (.slice none 0 0)).alloc (.cells #[.int .i64 0] 3)).alloc (.cells #[.slice A fs.length c] 27)
 have b2:=(Boxed.new (w1.alloc (.cells #[.slice none 0 0] 29)) 3 (.int .i64 0)).alloc (.cells #[.slice A fs.length c] 27)
 have b3:=Boxed.new ((w1.alloc (.cells #[.slice none 0 0] 29)).alloc (.cells #[.int .i64 0] 3)) 27 (.slice A fs.length c)
 simp only[Jq] at b2 b3
 have hB0:Below w.heap.size w (((w1.alloc (.cells #[.slice none 0 0] 29)).alloc (.cells #[.int .i64 0] 3)).alloc (.cells #[.slice A fs.length c] 27)):=((hb1.alloc hb1.size _).alloc (by have:=hb1.size;simp;omega) _).alloc (by have:=hb1.size;simp;omega) _
 have hsz:(((w1.alloc (.cells #[.slice none 0 0] 29)).alloc (.cells #[.int .i64 0] 3)).alloc (.cells #[.slice A fs.length c] 27)).heap.size=w1.heap.size+3:=by simp
 have hsw:=hb1.size
 obtain⟨W0,hW0⟩:∃W0,((w1.alloc (.cells #[.slice none 0 0] 29)).alloc (.cells #[.int .i64 0] 3)).alloc (.cells #[.slice A fs.length c] 27)=W0:=⟨_,rfl⟩
 rw[hW0] at b1 b2 b3 hB0 hsz ⊢
 clear hW0
 refine wpIn_rangeFunc_ownH rfl (by decide) (gf:=156) (lb:=#[.pointer (some ⟨w1.heap.size+1+1,0,none⟩)]) rfl trivial (enters_of Tryz.func156 (by kernel_rfl) rfl)
  (places_stops 2 (by decide) (w1.heap.size+1+1) A c fs hmay h16 w W0 hA hB0 b3.cell) KpF.trans (KpF.putObj (by omega)) (Jy _ _) (fun _=>rfl)
  (fun pre W=>((∃v,Boxed W w1.heap.size 29 v∧W.ownsRow W0.heap.size 3 1 v pre.length (intsV (pre.map fun x=>x.1.1))∧True)∧Boxed W (w1.heap.size+1) 3 (.int .i64 (lastF pre:Nat)))∧Below w.heap.size w W)
  (fun _ _ _=>False)
  (OwnFrom.and (OwnFrom.and (Own.from (holdsRow_own W0.heap.size w1.heap.size 29 3 1 (fun pre:List PF=>pre.length) (fun pre=>intsV (pre.map fun x=>x.1.1)) (fun _ _=>True)) _) (Own.from (boxed_own _ _ _) _)) (ownFrom_below (J9 _) (by omega)))
  (fun _ _ _ _ _ hs _ _=>hs)
  ⟨⟨⟨_,b1,own_nil _ _ _ _,trivial⟩,b2⟩,hB0⟩
  (fun x a' W=>∃Bx,W.heap[Bx]?=some (.cells #[.string x.1.2.s,.int .i64 x.1.2.k,.int .i64 x.1.2.l] 68 (0,0))∧a'={ tmps:=#[.slice A fs.length c,undef,.slice none 0 0,.int .i64 0,.pointer (some ⟨w1.heap.size,0,none⟩),.pointer (some ⟨w1.heap.size+1,0,none⟩),.int .i64 (x.1.1:Int),.pointer (some ⟨Bx,0,none⟩),.slice A fs.length c,.bool true,.bool false,.slice A fs.length c,.func (.func 156) #[] #[.pointer (some ⟨w1.heap.size+1+1,0,none⟩)],.int .i64 (x.1.1:Int),.agg #[.string x.1.2.s,.int .i64 x.1.2.k,.int .i64 x.1.2.l],undef,undef,undef,undef,undef,undef,undef,undef,undef,undef,undef],defers:=[] })
  (fun x a' _ X Y row hs hg hr=>by
    obtain⟨Bx,h1,h2⟩:=hs
    exact⟨Bx,(hg.block Bx (Qk.1 h1).1 (fun e=>by obtain⟨_,o,ho,hc⟩:=hr Bx e.symm;rw[h1] at ho;cases ho;cases hc)).trans h1,h2⟩)
  ?assign ?body ?done ?stop
 case assign=>
  rintro l pre x W K ⟨⟨⟨v,hv,hrow,_⟩,hb2⟩,hB1⟩ hK
  dsimp only[encPF]
  gi_wp2
  exact hK _ _ ((KeepsOthers.alloc _ _).from _) (KpF.alloc hB1.size _) ⟨⟨⟨v,hv.alloc _,hrow.alloc _,trivial⟩,hb2.alloc _⟩,hB1.alloc hB1.size _⟩ ⟨W.heap.size,World.alloc_heap_new W _,rfl⟩
 case body=>
  rintro l pre x a' W hl ⟨r,hr⟩ ⟨⟨⟨v,hv,hrow,_⟩,h2⟩,hB⟩ ⟨Bx,hX,rfl⟩ hlt
  have hc:=hv.cell
  have hx1:=x.2
  have hx2:=Fd.n_le x.1.2
  have HL:=J0 (Fd.n_eq x.1.2).symm
  have hsW:=hB.size
  have hb2lt:=h2.lt
  have hrsz:W0.heap.size≤W.heap.size:=by
   have:=(Qk.1 hr).1
   omega
  gi_wp2_with (first
   |(gi_at_builtin;refine wpListIn_append_own _ rfl _ _ 29 rfl W0.heap.size 3 i0 (.int .i64 0) 1 8 Tryz.underlying29 hi hz0 hz1 hz2 rfl (by decide) _ _ _ rfl (hrow.alloc _) ⟨W.heap.size,0,none⟩ 1 1 [.int .i64 (x.1.1:Int)] rfl rfl (cell_one_new _ _ _) (by simp[Value.oneCell']) (by unfold maxLen;omega) (by omega) (by simp;omega) ?_;intro v' w2 hown' hgrow _;obtain⟨g',cap',rfl⟩:=ownsRow_succ hown';obtain⟨hv1,hv2,h22,hr2,hk2,hf2⟩:=appendedF (n₀:=w.heap.size) hv h2 hrow (by omega) (by omega) (by omega) (by omega) hrsz hown' hgrow;have hc1:=hv1.cell;have hf1:=hv1.frozen;obtain⟨x0,x1,x2⟩:=FBox.of (hf2.fld _ _ _ hX))
   |(refine⟨trivial,?_⟩;gi_at_call 89;refine(CallsIn.inRound l (callsIn_wide.2 (Long_is _ _ _ _ HL.out _))).mono ?_;rintro e w3 ⟨rfl,hb3⟩;have hv3:=boxed_below hv2 hb3;have h23:=boxed_below h22 hb3;have hr3:=own_below hr2 hb3;have hc3:=h23.cell;have hf3:=h23.frozen))
  have hz2:=hf2.below.size
  have hz3:=hb3.size
  have hk3:=hk2.trans (KeepsOthers.of_below hb3)
  have hf3':=hf2.trans (KpF.of_below hb3 (Q7 hsW hz2))
  have hkp:=hf3'.trans (KpF.setCell h23 (n₀:=w.heap.size) (by omega) (by decide) (.int .i64 ((x.1.1:Int)+(x.1.2.n:Int))))
  refine⟨(hk3.trans (KeepsOthers.setCell _ _ _)).from _,hkp,⟨⟨⟨_,hv3.other (by omega) _,?_,trivial⟩,?_⟩,hB.trans hkp.below⟩⟩
  ·have e:intsV ((pre++[x]).map fun x=>x.1.1)=intsV (pre.map fun x=>x.1.1)++[.int .i64 (x.1.1:Int)]:=by simp[intsV]
   rw[e,Qz]
   exact hr3.kept (grownBy_setCell' _ _ _) (.inr fun e=>by have:=own_base hr3 _ e;omega)
  ·rw[lastF_snoc]
   exact h23.set _
 case done=>
  rintro D ys W hD hys ⟨⟨⟨v,hv,hrow,_⟩,h2⟩,hB⟩ hK
  have hlast:=lastF_seq ys fs hys
  have hyl:ys.length=fs.length:=by
   have:=congrArg List.length hys
   rwa [Kz,seqF_length] at this
  have hyv:ys.map (fun x=>x.1.1)=(seqF 0 fs).map Prod.fst:=by rw[←hys,List.map_map];rfl
  rw[hyv,hyl] at hrow
  rw[hlast] at h2
  have hc:=hv.cell
  have hc2:=h2.cell
  clear hlast hyl hyv hys
  gi_wp2
  rw[wpIn_wide]
  refine RW.start (fun w'=>Below w.heap.size w w'∧w'.cell? ⟨w1.heap.size,0,none⟩=some v∧w'.cell? ⟨w1.heap.size+1,0,none⟩=some (.int .i64 (endF 0 fs:Nat))∧w'.ownsRow W0.heap.size 3 1 v fs.length (intsV ((seqF 0 fs).map Prod.fst))∧w'.heap[D]?=some (.deferred (some []))) (by kernel_rfl) (by kernel_rfl) ⟨hB.drew,hc,hc2,hrow,hK⟩ ?_
  clear hB hc hc2 hrow hK hv h2
  repeat (first
   |(refine' RW.val (by rfl) ?_ ?_;rotate_left;(focus (intro w' hS;obtain⟨HB,hc,hc2,hrow,hK⟩:=hS;go_simp;rfl));simp only[Act.put,J1,J3,J2])
   |(refine RW.off (by rfl) ?_;simp only[Act.put,J1,J3,J2])
   |(refine' RW.call (by rfl) ?_ ?_ ?_
     rotate_left 3
     (focus (intro w' hS;obtain⟨HB,hc,hc2,hrow,hK⟩:=hS;go_simp;exact⟨rfl,rfl⟩))
     (focus
       intro w' hS
       obtain⟨HB,hc,hc2,hrow,hK⟩:=hS
       first
        |(refine(up_calls (endF 0 fs) 8 (by omega) (by omega) _).mono ?_;rintro e w1 ⟨rfl,rfl⟩;exact⟨rfl,HB,hc,hc2,hrow,hK⟩))
     simp only[Act.put,J1,J3,J2]))
  refine RW.done (fun w' hS=>?_)
  obtain⟨HB,hc,hc2,hrow,hK⟩:=hS
  gi_wp2
  refine⟨by simp,.inl ⟨_,_,rfl,run_takeDeferred hK,?_⟩⟩
  have hD2:w.heap.size≤D:=by omega
  exact⟨_,results_tmp2 rfl _ _ _,v,rfl,own_mono (ownsRow_putObj hrow _ hK rfl) (by omega),HB.trans (belowK_b (w:=w) (J9 _) _ D _ _ hD2 hK rfl rfl)⟩
 case stop=>
  rintro D c' pre W _ _ h _
  exact h.elim
theorem Layout_calls (A:Option Addr) (c:Nat) (fs:List Fd) (w:World) (hA:Rd w A (cellsF fs)) (hl:fs.length≤9223372036854775807):
 Calls Tryz.prog 70 #[.slice A fs.length c] w fun e w'=>∃v,e=.returned (.tuple #[v,.int .i64 (sizeF fs:Nat)])∧w'.ownsRow w.heap.size 3 1 v (layL fs).length (intsV (layL fs))∧Below w.heap.size w w':=by
 cases hr:rightF fs
 ·refine(Layout_no A c fs hr w hA hl).mono ?_
  rintro e w' ⟨rfl,hb⟩
  have e1:layL fs=[]:=by simp[layL,hr]
  have e2:sizeF fs=0:=by simp[sizeF,hr]
  rw[e1,e2]
  exact⟨_,rfl,own_nil _ _ _ _,hb⟩
 ·refine(Layout_yes A c fs hr w hA hl).mono ?_
  rintro e w' ⟨v,rfl,ho,hb⟩
  have e1:layL fs=(seqF 0 fs).map Prod.fst:=by simp[layL,hr]
  have e2:sizeF fs=upN (endF 0 fs) 8:=by simp[sizeF,hr]
  rw[e1,e2,Kz,seqF_length]
  exact⟨_,rfl,ho,hb⟩
attribute [local go_sem] Oper.semAt_some
end
end Go.Proofs.YteembinfgbapgaaGreat
