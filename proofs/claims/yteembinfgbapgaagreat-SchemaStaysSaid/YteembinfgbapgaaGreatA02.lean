/- Merged out of: Kd Ga Gb Gc Gd Ke Kf. -/
import Derived.Test.YteembinfgbapgaaGreatA01
import Derived.Laws.RangeAny
import Derived.Lib.Hide
set_option linter.unusedSimpArgs false
set_option linter.unusedVariables false
set_option maxRecDepth 100000
set_option maxHeartbeats 8000000
namespace Go.Proofs.YteembinfgbapgaaGreat
section
open Go.RowKit
def FBox (w:World) (b:Nat) (s:ByteArray) (k l:Int):Prop:=w.cell? ⟨b,0,none⟩=some (.string s)∧w.cell? ⟨b,1,none⟩=some (.int .i64 k)∧w.cell? ⟨b,2,none⟩=some (.int .i64 l)
def VBox (w:World) (b:Nat) (k x:Int) (t:ByteArray):Prop:=w.cell? ⟨b,0,none⟩=some (.int .i64 k)∧w.cell? ⟨b,1,none⟩=some (.int .u64 x)∧w.cell? ⟨b,2,none⟩=some (.string t)
theorem FBox.below {w w1:World} {b:Nat} {s:ByteArray} {k l:Int} (h:FBox w b s k l) (hb:Below w.heap.size w w1):FBox w1 b s k l:=⟨cell_below (B:=0) hb h.1,cell_below (B:=0) hb h.2.1,cell_below (B:=0) hb h.2.2⟩
theorem VBox.below {w w1:World} {b:Nat} {k x:Int} {t:ByteArray} (h:VBox w b k x t) (hb:Below w.heap.size w w1):VBox w1 b k x t:=⟨cell_below (B:=0) hb h.1,cell_below (B:=0) hb h.2.1,cell_below (B:=0) hb h.2.2⟩
theorem FBox.new (w:World) (s:ByteArray) (k l:Int):FBox (w.alloc (.cells #[.string s,.int .i64 k,.int .i64 l] 68)) w.heap.size s k l:=⟨cell_new _ _ _ _ _ rfl,cell_new _ _ _ _ _ rfl,cell_new _ _ _ _ _ rfl⟩
theorem VBox.new (w:World) (k x:Int) (t:ByteArray):VBox (w.alloc (.cells #[.int .i64 k,.int .u64 x,.string t] 71)) w.heap.size k x t:=⟨cell_new _ _ _ _ _ rfl,cell_new _ _ _ _ _ rfl,cell_new _ _ _ _ _ rfl⟩
theorem FBox.alloc {w:World} {b:Nat} {s:ByteArray} {k l:Int} (h:FBox w b s k l) (o:Obj):FBox (w.alloc o) b s k l:=h.below (below_new o)
theorem VBox.alloc {w:World} {b:Nat} {k x:Int} {t:ByteArray} (h:VBox w b k x t) (o:Obj):VBox (w.alloc o) b k x t:=h.below (below_new o)
def mayB (k l:Int):Bool:=if k=12 then btw 1 l 64 else decide (0<sizeZ k) && decide (l=0)
def longZ (k l:Int):Int:=if mayB k l=true then(if k=12 then l else sizeZ k) else 0
theorem may_calls (s:ByteArray) (k l:Int) (w:World):Calls Tryz.prog 127 #[.agg #[.string s,.int .i64 k,.int .i64 l]] w fun e w'=>e=.returned (.bool (mayB k l))∧Below w.heap.size w w':=by
 by_cases hk:k=12
 ·subst hk
  go_enter Tryz.func127,Tryz.ntmps127
  go_wp2
  all_goals
   go_ret
   exact⟨ret_bool (by rw[Bool.eq_iff_iff];simp[mayB,btw];try omega),below_new _⟩
 ·go_enter Tryz.func127,Tryz.ntmps127
  go_wp2_with (go_at_call 128;refine(Size_calls _ _).mono ?_;rintro e w' ⟨rfl,rfl⟩)
  all_goals
   go_ret
   exact⟨ret_bool (by rw[Bool.eq_iff_iff];simp[mayB,hk];try omega),below_new _⟩
theorem Long_calls (s:ByteArray) (k l:Int) (w:World):Calls Tryz.prog 89 #[.agg #[.string s,.int .i64 k,.int .i64 l]] w fun e w'=>e=.returned (.int .i64 (longZ k l))∧Below w.heap.size w w':=by
 by_cases hm:mayB k l=true
 ·have hkk:k=12∨¬k=12:=by omega
  rcases hkk with rfl|hk
  all_goals
   go_enter Tryz.func89,Tryz.ntmps89
   go_wp2_with (first|(go_at_call 128;refine(Size_calls _ _).mono ?_;rintro e w' ⟨rfl,rfl⟩)|(go_at_call 127;refine(may_calls _ _ _ _).mono ?_;rintro e w1 ⟨rfl,hb⟩;obtain⟨hc,hf⟩:=bcell hb))
   go_ret
   exact⟨ret_int (by simp[longZ, *]),below_seq (below_new _) hb⟩
 ·rw[Bool.not_eq_true] at hm
  go_enter Tryz.func89,Tryz.ntmps89
  go_wp2_with (first|(go_at_call 127;refine(may_calls _ _ _ _).mono ?_;rintro e w1 ⟨rfl,hb⟩;obtain⟨hc,hf⟩:=bcell hb))
  go_ret
  exact⟨ret_int (by simp[longZ,hm]),below_seq (below_new _) hb⟩
theorem Fits_is (n width:Int) (s:Bool) (h0:0≤n) (h1:n<18446744073709551616) (r:Bool) (h:fitsB n width s=r) (w:World):Calls Tryz.prog 131 #[.int .u64 n,.int .i64 width,.bool s] w fun e w'=>e=.returned (.bool r)∧w=w':=h▸Fits_calls n width s h0 h1 w
def fitB (bits k l:Int):Bool:=if k=12 then decide (bits=0) else if k=9 then decide (bits≤1) else fitsB bits (longZ k l) (btw 5 k 8) || decide (k=10) || decide (k=11)
theorem fits_calls (pf pv:Nat) (s:ByteArray) (k l bits:Int) (h0:0≤bits) (h1:bits<18446744073709551616) (w:World) (c0:w.cell? ⟨pf,0,none⟩=some (.string s)) (c1:w.cell? ⟨pf,1,none⟩=some (.int .i64 k)) (c2:w.cell? ⟨pf,2,none⟩=some (.int .i64 l))
 (d1:w.cell? ⟨pv,1,none⟩=some (.int .u64 bits)):
 Calls Tryz.prog 132 #[.pointer (some ⟨pf,0,none⟩),.pointer (some ⟨pv,0,none⟩)] w fun e w'=>e=.returned (.bool (fitB bits k l))∧Below w.heap.size w w':=by
 by_cases hk:k=12
 ·subst hk
  go_enter Tryz.func132,Tryz.ntmps132
  go_wp2
  go_ret
  exact⟨ret_bool (by rw[Bool.eq_iff_iff];simp[fitB]),Below.refl _ _⟩
 ·by_cases hk9:k=9
  ·subst hk9
   go_enter Tryz.func132,Tryz.ntmps132
   go_wp2
   go_ret
   exact⟨ret_bool (by rw[Bool.eq_iff_iff];simp[fitB]),Below.refl _ _⟩
  ·have hk12':(k == 12)=false:=by simpa using hk
   have hk9':(k == 9)=false:=by simpa using hk9
   have f0:=blk_lt_of c0
   have f1:=blk_lt_of d1
   obtain⟨r,hr⟩:∃r,fitsB bits (longZ k l) (btw 5 k 8)=r:=⟨_,rfl⟩
   obtain⟨q,hq⟩:∃q,(k == 10)=q:=⟨_,rfl⟩
   have H:=Lib.hid hr
   clear hr
   cases r <;> cases q
   all_goals
    go_enter Tryz.func132,Tryz.ntmps132
    go_wp2
    refine RW.start (fun w'=>Below w.heap.size w w'∧w'.cell? ⟨pf,0,none⟩=some (.string s)∧w'.cell? ⟨pf,1,none⟩=some (.int .i64 k)∧w'.cell? ⟨pf,2,none⟩=some (.int .i64 l)∧w'.cell? ⟨pv,1,none⟩=some (.int .u64 bits)) (by kernel_rfl) (by kernel_rfl) ⟨(Below.refl _ _).drew,c0,c1,c2,d1⟩ ?_
    clear c0 c1 c2 d1
    repeat (first
     |(refine' RW.val (by rfl) ?_ ?_;rotate_left;(focus (intro w' hS;obtain⟨hB,c0,c1,c2,d1⟩:=hS;go_simp;rfl));simp only[Act.put,List.setIfInBounds_toArray,List.set_cons_zero,List.set_cons_succ])
     |(refine RW.off (by rfl) ?_;simp only[Act.put,List.setIfInBounds_toArray,List.set_cons_zero,List.set_cons_succ])
     |(refine' RW.call (by rfl) ?_ ?_ ?_
       rotate_left 3
       (focus (intro w' hS;obtain⟨hB,c0,c1,c2,d1⟩:=hS;go_simp;exact⟨rfl,rfl⟩))
       (focus
         intro w' hS
         obtain⟨hB,c0,c1,c2,d1⟩:=hS
         first
          |(refine(Long_calls _ _ _ _).mono ?_;rintro e w1 ⟨rfl,hb⟩;exact⟨rfl,⟨(below_seq hB hb),(cell_below (B:=0) hb c0),(cell_below (B:=0) hb c1),(cell_below (B:=0) hb c2),(cell_below (B:=0) hb d1)⟩⟩)
          |(refine(signed_calls _ _).mono ?_;rintro e w1 ⟨rfl,rfl⟩;exact⟨rfl,hB,c0,c1,c2,d1⟩)
          |(refine(Fits_is _ _ _ h0 h1 _ H.out _).mono ?_;rintro e w1 ⟨rfl,rfl⟩;exact⟨rfl,hB,c0,c1,c2,d1⟩))
       simp only[Act.put,List.setIfInBounds_toArray,List.set_cons_zero,List.set_cons_succ]))
    refine RW.done (fun w' hS=>?_)
    obtain⟨hB,c0,c1,c2,d1⟩:=hS
    go_wp2
    go_ret
    refine⟨ret_bool ?_,hB⟩
    rw[fitB,if_neg hk,if_neg hk9,H.out,Bool.eq_iff_iff]
    simp at hq
    simp[hq]
structure Fd where
 s:ByteArray
 k:Int
 l:Int
def Fd.v (f:Fd):Value:=.agg #[.string f.s,.int .i64 f.k,.int .i64 f.l]
def cellsF (fs:List Fd):List Value:=fs.flatMap fun f=>[.string f.s,.int .i64 f.k,.int .i64 f.l]
theorem cellsF_length (fs:List Fd):(cellsF fs).length=3 * fs.length:=by
 induction fs with
 |nil=>rfl
 |cons f r ih=>simp only[cellsF,List.flatMap_cons,List.length_append,List.length_cons,List.length_nil] at *;omega
theorem cellsF_get (fs:List Fd) (i:Nat) (f:Fd) (h:fs[i]?=some f):(cellsF fs)[i * 3]?=some (.string f.s)∧(cellsF fs)[i * 3+1]?=some (.int .i64 f.k)∧(cellsF fs)[i * 3+2]?=some (.int .i64 f.l):=by
 induction fs generalizing i with
 |nil=>simp at h
 |cons g r ih=>
  cases i with
  |zero=>
   simp at h
   subst h
   exact⟨rfl,rfl,rfl⟩
  |succ i=>
   have:=ih i (by simpa using h)
   rw[cellsF,List.flatMap_cons]
   refine⟨?_,?_,?_⟩
   ·rw[show (i+1) * 3=i * 3+3 by omega,List.getElem?_append_right (by simp)];simpa[cellsF] using this.1
   ·rw[show (i+1) * 3+1=i * 3+1+3 by omega,List.getElem?_append_right (by simp)];simpa[cellsF] using this.2.1
   ·rw[show (i+1) * 3+2=i * 3+2+3 by omega,List.getElem?_append_right (by simp)];simpa[cellsF] using this.2.2
def upN (at_ n:Nat):Nat:=(at_+n - 1) / n * n
theorem up_calls (at_ n:Nat) (hn:0<n) (h:at_+n≤4611686018427387904) (w:World):Calls Tryz.prog 105 #[.int .i64 at_,.int .i64 n] w fun e w'=>e=.returned (.int .i64 (upN at_ n))∧w=w':=by
 have hz:((n:Int) == 0)=false:=by simp;omega
 have hq:(at_+n - 1) / n * n≤at_+n - 1:=Nat.div_mul_le_self _ _
 have hd:(at_+n - 1) / n≤at_+n - 1:=Nat.div_le_self _ _
 go_enter Tryz.func105,Tryz.ntmps105
 go_wp2
 go_ret
 refine⟨ret_int ?_,rfl⟩
 have e:((at_:Int)+n - 1) / n * n=((upN at_ n:Nat):Int):=by
  unfold upN
  rw[Int.natCast_mul,Int.natCast_ediv,show((at_+n - 1:Nat):Int)=at_+n - 1 by omega]
 have hb:upN at_ n≤at_+n - 1:=hq
 show wrap64 _=_
 rw[e]
 generalize upN at_ n=u at *
 clear e hd hz
 first|(unfold wrap64;omega)|(simp[wrap64];omega)
def findZ:List Fd→ByteArray→Int
 |[],_=>-1
 |f :: r,nm=>if f.s=nm then 0 else if findZ r nm<0 then -1 else findZ r nm+1
theorem findZ_ge (fs:List Fd) (nm:ByteArray):-1≤findZ fs nm∧findZ fs nm<fs.length:=by
 induction fs with
 |nil=>simp[findZ]
 |cons f r ih=>simp only[findZ,List.length_cons];split <;> (try split) <;> omega
theorem findZ_at (fs:List Fd) (nm:ByteArray) (k:Nat) (f:Fd) (hk:fs[k]?=some f) (h:f.s=nm) (hb:∀(j:Nat) (g:Fd),j<k→fs[j]?=some g→g.s≠nm):findZ fs nm=k:=by
 induction fs generalizing k with
 |nil=>simp at hk
 |cons g r ih=>
  cases k with
  |zero=>
   simp at hk
   subst hk
   simp[findZ,h]
  |succ k=>
   have h0:=hb 0 g (by omega) rfl
   have:=ih k (by simpa using hk) (fun j g' hj hg=>hb (j+1) g' (by omega) (by simpa using hg))
   rw[findZ,if_neg h0,this,if_neg (by omega)];omega
theorem findZ_none (fs:List Fd) (nm:ByteArray) (hb:∀(j:Nat) (g:Fd),fs[j]?=some g→g.s≠nm):findZ fs nm=-1:=by
 induction fs with
 |nil=>rfl
 |cons g r ih=>
  have h0:=hb 0 g rfl
  rw[findZ,if_neg h0,ih (fun j g' hg=>hb (j+1) g' (by simpa using hg)),if_pos (by omega)]
theorem Rd.at {w:World} {A:Option Addr} {cs:List Value} (h:Rd w A cs) {j:Nat} {u:Value} (hj:cs[j]?=some u):∃ad,A=some ad∧w.cell? (ad.add j)=some u:=by
 obtain⟨ad,e,hc⟩:=h (by intro hn;subst hn;simp at hj)
 exact⟨ad,e,hc j u hj⟩
theorem rFind_calls (A:Option Addr) (c:Nat) (fs:List Fd) (nm:ByteArray) (w:World) (hA:Rd w A (cellsF fs)) (hl:fs.length≤9223372036854775807):
 Calls Tryz.prog 114 #[.slice A fs.length c,.string nm] w fun e w'=>e=.returned (.int .i64 (findZ fs nm))∧w=w':=by
 obtain⟨r,hr⟩:∃r,findZ fs nm=r:=⟨_,rfl⟩
 rw[hr]
 go_enter Tryz.func114,Tryz.ntmps114
 go_wp2
 go_loop [5] (fun i=>∃k:Nat,k≤fs.length∧i=.int .i64 k∧∀(j:Nat) (g:Fd),j<k→fs[j]?=some g→g.s≠nm) (fun i=>fs.length - (intOf i).toNat)
 case atStart=>exact⟨0,by omega,rfl,fun j g h=>by omega⟩
 case round=>
  obtain⟨k,hk,rfl,hb⟩:=hrel
  by_cases hlt:k<fs.length
  ·obtain⟨f,hf⟩:∃f,fs[k]?=some f:=⟨_,List.getElem?_eq_getElem hlt⟩
   obtain⟨ad,rfl,hcell⟩:=hA.at (cellsF_get fs k f hf).1
   have hz:=findZ_at fs nm k f hf
   by_cases he:f.s=nm
   ·obtain rfl:(k:Int)=r:=(hz he hb).symm.trans hr
    subst he
    have ht:(f.s.toList == f.s.toList)=true:=by simp
    clear hb hz hr
    go_wp2
    go_ret
    exact⟨rfl,rfl⟩
   ·have ht:(f.s.toList == nm.toList)=false:=by
     simp only[ByteArray.toList_eq,beq_eq_false_iff_ne,ne_eq]
     intro h
     apply he
     have:f.s.data=nm.data:=Array.toList_inj.1 h
     cases hfs:f.s;cases nm;simp_all
    have hb':∀(j:Nat) (g:Fd),j<k+1→fs[j]?=some g→g.s≠nm:=fun j g hj hg=>by
     rcases(by omega:j<k∨j=k) with h|rfl
     ·exact hb j g h hg
     ·rw[hf] at hg;cases hg;exact he
    clear hb hz hr
    go_wp2
    go_round
    case rel=>exact⟨k+1,by omega,by go_num,hb'⟩
    case measure=>simp[intOf];omega
  ·obtain rfl:k=fs.length:=by omega
   have:findZ fs nm=-1:=findZ_none fs nm fun j g hg=>hb j g (by have:=List.getElem?_eq_some_iff.1 hg;exact this.1) hg
   obtain rfl:-1=r:=this.symm.trans hr
   clear hb
   go_wp2
   go_ret
   exact⟨rfl,rfl⟩
theorem add_part (a:Addr) (m n:Nat):a.add (m+(n+1))=⟨(a.add m).block,(a.add m).off+(n+1),none⟩:=by
 rw[←Addr.add_add,Addr.add_succ']
theorem name_beq (a b:ByteArray):(a.toList == b.toList)=decide (a=b):=by
 rw[Bool.eq_iff_iff]
 simp only[ByteArray.toList_eq,beq_iff_eq,decide_eq_true_eq]
 constructor
 ·intro h
  have:a.data=b.data:=Array.toList_inj.1 h
  cases a;cases b;simp_all
 ·intro h;rw[h]
theorem Find1_calls (b:Nat) (s:ByteArray) (k l:Int) (nm:ByteArray) (w:World) (hc:w.cell? ⟨b,0,none⟩=some (.string nm)):
 Calls Tryz.prog 134 #[.agg #[.string s,.int .i64 k,.int .i64 l],.pointer (some ⟨b,0,none⟩)] w fun e w'=>e=.returned (.bool (s.toList == nm.toList))∧Below w.heap.size w w':=by
 have hb:b<w.heap.size:=blk_lt_of hc
 go_enter Tryz.func134,Tryz.ntmps134
 go_wp2
 go_ret
 exact⟨rfl,below_new _⟩
theorem IndexFunc_calls (A:Option Addr) (c:Nat) (fs:List Fd) (b:Nat) (nm:ByteArray) (w:World) (hA:Rd w A (cellsF fs)) (hl:fs.length≤9223372036854775807) (hc:w.cell? ⟨b,0,none⟩=some (.string nm)):
 Calls Tryz.prog 133 #[.slice A fs.length c,.func (.func 134) #[] #[.pointer (some ⟨b,0,none⟩)]] w fun e w'=>e=.returned (.int .i64 (findZ fs nm))∧Below w.heap.size w w':=by
 obtain⟨r,hr⟩:∃r,findZ fs nm=r:=⟨_,rfl⟩
 rw[hr]
 go_enter Tryz.func133,Tryz.ntmps133
 go_wp2
 go_loopw [5,8] (fun x i wr=>∃k:Nat,k≤fs.length∧i=.int .i64 k∧Below w.heap.size w wr∧∀(j:Nat) (g:Fd),j<k→fs[j]?=some g→g.s≠nm) (fun _ i _=>fs.length - (intOf i).toNat)
 case atStart=>exact⟨0,by omega,rfl,Below.refl _ _,fun j g h=>by omega⟩
 case round=>
  obtain⟨k,hk,rfl,HB,hb⟩:=hrel
  have hAr:=hA.below HB
  have hcr:=cell_below (B:=0) HB hc
  by_cases hlt:k<fs.length
  ·obtain⟨f,hf⟩:∃f,fs[k]?=some f:=⟨_,List.getElem?_eq_getElem hlt⟩
   obtain⟨g0,g1,g2⟩:=cellsF_get fs k f hf
   obtain⟨ad,rfl,hcell⟩:=hAr.at g0
   obtain⟨_,e1,hcell1⟩:=hAr.at g1
   obtain⟨_,e2,hcell2⟩:=hAr.at g2
   cases e1;cases e2
   rw[add_part _ _ 0] at hcell1
   rw[add_part _ _ 1] at hcell2
   have hz:=findZ_at fs nm k f hf
   by_cases he:f.s=nm
   ·obtain rfl:(k:Int)=r:=(hz he hb).symm.trans hr
    clear hb hz hr
    go_wp2_with (go_at_call 134;refine(Find1_calls b _ _ _ nm _ hcr).mono ?_;rintro e w1 ⟨rfl,hb1⟩;rw[name_beq,decide_eq_true rfl])
    go_ret
    exact⟨rfl,below_seq HB hb1⟩
   ·have hb':∀(j:Nat) (g:Fd),j<k+1→fs[j]?=some g→g.s≠nm:=fun j g hj hg=>by
     rcases(by omega:j<k∨j=k) with h|rfl
     ·exact hb j g h hg
     ·rw[hf] at hg;cases hg;exact he
    have ht:(f.s.toList == nm.toList)=false:=by rw[name_beq];exact decide_eq_false he
    clear hb hz hr
    go_wp2_with (go_at_call 134;refine(Find1_calls b _ _ _ nm _ hcr).mono ?_;rintro e w1 ⟨rfl,hb1⟩;rw[ht])
    go_roundw
    case rel=>exact⟨k+1,by omega,by go_num,below_seq HB hb1,hb'⟩
    case measure=>simp[intOf];omega
  ·obtain rfl:k=fs.length:=by omega
   have:findZ fs nm=-1:=findZ_none fs nm fun j g hg=>hb j g (by have:=List.getElem?_eq_some_iff.1 hg;exact this.1) hg
   obtain rfl:-1=r:=this.symm.trans hr
   clear hb
   go_wp2
   go_ret
   exact⟨rfl,HB⟩
theorem Find_calls (A:Option Addr) (c:Nat) (fs:List Fd) (nm:ByteArray) (w:World) (hA:Rd w A (cellsF fs)) (hl:fs.length≤9223372036854775807):
 Calls Tryz.prog 96 #[.slice A fs.length c,.string nm] w fun e w'=>e=.returned (.int .i64 (findZ fs nm))∧Below w.heap.size w w':=by
 have hmf:∀(fn:Fn) (first cap:Array Value) (w:World),(Instr.makeFunc fn first cap).run Tryz.prog w=.ok (.func fn first cap) w:=fun _ _ _ _=>rfl
 have HB:Below w.heap.size w (w.alloc (.cells #[.string nm] 9)):=below_new _
 go_enter Tryz.func96,Tryz.ntmps96
 go_wp2_with (go_at_call 133;refine(IndexFunc_calls A c fs w.heap.size nm _ (hA.below HB) hl (cell_new _ _ _ _ _ rfl)).mono ?_;rintro e w1 ⟨rfl,hb⟩)
 go_ret
 exact⟨rfl,below_seq HB hb⟩
def signB (i b:Nat):Bool:=decide (97≤b∧b≤122) || (decide (i≠0) && decide ((48≤b∧b≤57)∨b=95))
def nameB (s:ByteArray):Bool:=decide (∀i,∀h:i<s.size,signB i (s[i]'h).toNat=true) && decide (1≤s.size∧s.size≤15)
theorem nameB_bad {s:ByteArray} {i:Nat} (h:i<s.size) (hb:signB i (s[i]'h).toNat=false):nameB s=false:=by
 rw[nameB,decide_eq_false,Bool.false_and]
 intro ha
 have:=ha i h
 rw[hb] at this;cases this
theorem rune_at (s:ByteArray) (pos:Nat) (h:pos<s.size):((s[pos]'h).toNat<128∧Utf8.decode s pos=((s[pos]'h).toNat,1))∨(128≤(s[pos]'h).toNat∧128≤(Utf8.decode s pos).1∧1≤(Utf8.decode s pos).2):=by
 by_cases ha:(s[pos]'h).toNat<128
 ·exact .inl ⟨ha,decode_ascii s pos h ha⟩
 ·exact .inr ⟨by omega,decode_high s pos h (by omega)⟩
theorem rune_sign (s:ByteArray) (pos:Nat) (h:pos<s.size):∃y wd,Utf8.decode s pos=(y,wd)∧signB pos (s[pos]'h).toNat=signB pos y∧1≤wd∧(signB pos y=true→wd=1):=by
 rcases rune_at s pos h with ⟨ha,hd⟩|⟨ha,hd1,hd2⟩
 ·exact⟨_,_,hd,rfl,Nat.le_refl _,fun _=>rfl⟩
 ·have big:∀z,128≤z→signB pos z=false:=fun z hz=>by
   unfold signB
   rw[decide_eq_false (by omega),Bool.false_or,decide_eq_false (p:=(48≤z∧z≤57)∨z=95) (by omega),Bool.and_false]
  generalize Utf8.decode s pos=p at hd1 hd2 ⊢
  obtain⟨y,wd⟩:=p
  exact⟨y,wd,rfl,(big _ ha).trans (big y hd1).symm,hd2,fun h=>by rw[big y hd1] at h;cases h⟩
theorem sign_ways (y pos:Nat):
 (signB pos y=true∧decide (97≤(y:Int))=true∧decide ((y:Int)≤122)=true)
 ∨(signB pos y=false∧decide (97≤(y:Int))=false∧((pos:Int) == 0)=true)
 ∨(signB pos y=false∧decide (97≤(y:Int))=true∧decide ((y:Int)≤122)=false∧((pos:Int) == 0)=true)
 ∨(signB pos y=true∧decide (97≤(y:Int))=false∧((pos:Int) == 0)=false∧decide ((y:Int)<48)=false∧decide (57<(y:Int))=false)
 ∨(signB pos y=false∧decide (97≤(y:Int))=false∧((pos:Int) == 0)=false∧decide ((y:Int)<48)=true∧((y:Int) != 95)=true)
 ∨(signB pos y=false∧decide (97≤(y:Int))=false∧((pos:Int) == 0)=false∧decide ((y:Int)<48)=false∧decide (57<(y:Int))=true∧((y:Int) != 95)=true)
 ∨(signB pos y=true∧decide (97≤(y:Int))=false∧((pos:Int) == 0)=false∧decide ((y:Int)<48)=false∧decide (57<(y:Int))=true∧((y:Int) != 95)=false)
 ∨(signB pos y=false∧decide (97≤(y:Int))=true∧decide ((y:Int)≤122)=false∧((pos:Int) == 0)=false∧decide ((y:Int)<48)=false∧decide (57<(y:Int))=true∧((y:Int) != 95)=true):=by
 have e1:decide (97≤(y:Int))=decide (97≤y):=by rw[Bool.eq_iff_iff];simp;omega
 have e2:decide ((y:Int)≤122)=decide (y≤122):=by rw[Bool.eq_iff_iff];simp;omega
 have e3:((pos:Int) == 0)=decide (pos=0):=by rw[Bool.eq_iff_iff];simp
 have e4:decide ((y:Int)<48)=decide (y<48):=by rw[Bool.eq_iff_iff];simp;omega
 have e5:decide (57<(y:Int))=decide (57<y):=by rw[Bool.eq_iff_iff];simp;omega
 have e6:((y:Int) != 95)=!decide (y=95):=by rw[Bool.eq_iff_iff];simp;omega
 have e0:signB pos y=((decide (97≤y) && decide (y≤122)) || (!decide (pos=0) && ((!decide (y<48) && !decide (57<y)) || decide (y=95)))):=by
  rw[Bool.eq_iff_iff];simp[signB]
 rw[e0,e1,e2,e3,e4,e5,e6]
 have i1:decide (97≤y)=false→decide (y≤122)=true:=by simp;omega
 have i2:decide (97≤y)=true→decide (y<48)=false∧decide (57<y)=true∧decide (y=95)=false:=by simp;omega
 have i3:decide (y<48)=true→decide (57<y)=false∧decide (y=95)=false:=by simp;omega
 have i4:decide (57<y)=false→decide (y=95)=false:=by simp;omega
 generalize decide (97≤y)=A at *
 generalize decide (y≤122)=B at *
 generalize decide (pos=0)=C at *
 generalize decide (y<48)=D at *
 generalize decide (57<y)=E at *
 generalize decide (y=95)=F at *
 clear e0 e1 e2 e3 e4 e5 e6
 revert i1 i2 i3 i4
 cases A <;> cases B <;> cases C <;> cases D <;> cases E <;> cases F <;> decide
theorem Name_calls (s:ByteArray) (w:World):Calls Tryz.prog 50 #[.string s] w fun e w'=>e=.returned (.bool (nameB s))∧Below w.heap.size w w':=by
 obtain⟨r,hr⟩:∃r,nameB s=r:=⟨_,rfl⟩
 rw[hr]
 go_enter Tryz.func50,Tryz.ntmps50
 go_wp2
 go_loopw [3,4,5] (fun _ _ _ w'=>∃pos:Nat,w'=w.iter s pos∧pos≤s.size∧∀i,∀h:i<s.size,i<pos→signB i (s[i]'h).toNat=true) (fun _ _ _ w'=>s.size - w'.iterPos w.heap.size)
 case atStart=>exact⟨0,rfl,by omega,fun i h h0=>by omega⟩
 case round=>
  obtain⟨pos,rfl,hle,hall⟩:=hrel
  by_cases hp:pos<s.size
  ·have hnx:∀ty,(Instr.next (.pointer (some ⟨w.heap.size,0,none⟩)) true ty).run Tryz.prog (w.iter s pos)=_:=fun ty=>run_next_any w s pos ty hp
   obtain⟨y,wd,hd,hsy,hwd,hw1⟩:=rune_sign s pos hp
   rw[hd] at hnx
   have hbad:=fun h=>(hr.symm.trans (nameB_bad hp (hsy.trans h)):r=false)
   have hok:signB pos y=true→∀i,∀h:i<s.size,i<pos+wd→signB i (s[i]'h).toNat=true:=fun h i hi hlt=>by
    have:=hw1 h
    rcases(by omega:i<pos∨i=pos) with h2|rfl
    ·exact hall i hi h2
    ·exact hsy.trans h
   have hle2:signB pos y=true→pos+wd≤s.size:=fun h=>by have:=hw1 h;omega
   clear hall hr hsy hd hw1
   rcases sign_ways y pos with ⟨hs,h1,h2⟩|⟨hs,h1,h2⟩|⟨hs,h1,h2,h3⟩|⟨hs,h1,h2,h3,h4⟩|⟨hs,h1,h2,h3,h4⟩|⟨hs,h1,h2,h3,h4,h5⟩|⟨hs,h1,h2,h3,h4,h5⟩|⟨hs,h1,h2,h3,h4,h5,h6⟩
   ·have hok:=hok hs
    have hle2:=hle2 hs
    clear hbad hs
    go_wp2
    go_roundw
    case rel=>exact⟨pos+wd,rfl,hle2,hok⟩
    case measure=>simp;omega
   ·obtain rfl:=hbad hs
    clear hok hle2 hs hbad
    go_wp2
    go_ret
    exact⟨rfl,below_new _⟩
   ·obtain rfl:=hbad hs
    clear hok hle2 hs hbad
    go_wp2
    go_ret
    exact⟨rfl,below_new _⟩
   ·have hok:=hok hs
    have hle2:=hle2 hs
    clear hbad hs
    go_wp2
    go_roundw
    case rel=>exact⟨pos+wd,rfl,hle2,hok⟩
    case measure=>simp;omega
   ·obtain rfl:=hbad hs
    clear hok hle2 hs hbad
    go_wp2
    go_ret
    exact⟨rfl,below_new _⟩
   ·obtain rfl:=hbad hs
    clear hok hle2 hs hbad
    go_wp2
    go_ret
    exact⟨rfl,below_new _⟩
   ·have hok:=hok hs
    have hle2:=hle2 hs
    clear hbad hs
    go_wp2
    go_roundw
    case rel=>exact⟨pos+wd,rfl,hle2,hok⟩
    case measure=>simp;omega
   ·obtain rfl:=hbad hs
    clear hok hle2 hs hbad
    go_wp2
    go_ret
    exact⟨rfl,below_new _⟩
  ·have hnx:∀ty,(Instr.next (.pointer (some ⟨w.heap.size,0,none⟩)) true ty).run Tryz.prog (w.iter s pos)=_:=fun ty=>run_next_end w s pos ty hp
   obtain rfl:pos=s.size:=by omega
   have hn:nameB s=decide (1≤s.size∧s.size≤15):=by rw[nameB,decide_eq_true (fun i h=>hall i h h),Bool.true_and]
   rw[hr] at hn
   clear hall hr
   go_wp2
   all_goals
    go_ret
    refine⟨ret_bool ?_,below_new _⟩
    subst hn
    rw[Bool.eq_iff_iff]
    simp at *
    omega
def signL:List UInt8:=[97,98,99,100,101,102,103,104,105,106,107,108,109,110,111,112,113,114,115,116,117,118,119,120,121,122,48,49,50,51,52,53,54,55,56,57,95]
def atN (c:UInt8):Nat→Int
 |0=>-1
 |k+1=>if signL.getD k 0=c then k else atN c k
theorem sign_all:∀n:Fin 256,∀b:Bool,(decide (atN (UInt8.ofNat n.val) 37<0) || (b && decide (25<atN (UInt8.ofNat n.val) 37)))=!signB (if b then 0 else 1) n.val:=by decide +kernel
theorem sign_at (c:UInt8) (i:Nat):(decide (atN c 37<0) || (decide (i=0) && decide (25<atN c 37)))=!signB i c.toNat:=by
 have h:=sign_all ⟨c.toNat,c.toNat_lt⟩ (decide (i=0))
 simp only[UInt8.ofNat_toNat] at h
 rw[h]
 by_cases hi:i=0
 ·subst hi;rfl
 ·simp[signB,hi]
theorem signL_get (k:Nat) (h:k<(⟨signL.toArray⟩:ByteArray).size):(⟨signL.toArray⟩:ByteArray)[k]'h=signL.getD k 0:=by
 have h':k<signL.length:=h
 rw[List.getD_eq_getElem?_getD,List.getElem?_eq_getElem h']
 rfl
theorem rName_calls (s:ByteArray) (hs:s.size≤9223372036854775807) (w:World):Calls Tryz.prog 57 #[.string s] w fun e w'=>e=.returned (.bool (nameB s))∧Below w.heap.size w w':=by
 obtain⟨r,hr⟩:∃r,nameB s=r:=⟨_,rfl⟩
 rw[hr]
 have HR:=Lib.hid hr
 clear hr
 go_enter Tryz.func57,Tryz.ntmps57
 go_wp2
 generalize hsg:(⟨#[97,98,99,100,101,102,103,104,105,106,107,108,109,110,111,112,113,114,115,116,117,118,119,120,121,122,48,49,50,51,52,53,54,55,56,57,95]⟩:ByteArray)=sg
 have hz:sg.size=37:=by subst hsg;rfl
 have HG:Hid (∀k,∀h:k<sg.size,sg[k]'h=signL.getD k 0):=Lib.hid (by subst hsg;exact fun k h=>signL_get k h)
 clear hsg
 go_loopw [4,5,6] (fun i _ _ wr=>∃k:Nat,k≤s.size∧i=.int .i64 k∧Below w.heap.size w wr∧Hid (∀j,∀h:j<s.size,j<k→signB j (s[j]'h).toNat=true)) (fun i _ _ _=>s.size - (intOf i).toNat)
 case atStart=>exact⟨0,by omega,rfl,Below.refl _ _,Lib.hid fun j h h0=>by omega⟩
 case round=>
  obtain⟨k,hk,rfl,HB,hall⟩:=hrel
  by_cases hlt:k<s.size
  ·have hsign:=sign_at (s[k]'hlt) k
   obtain⟨c,hc⟩:∃c,s[k]'hlt=c:=⟨_,rfl⟩
   rw[hc] at hsign
   have HC:=Lib.hid hc
   clear hc
   have HS:=Lib.hid hsign
   clear hsign
   go_wp2
   obtain⟨wo,rfl⟩:∃wo:World,wo=wr:=⟨_,rfl⟩
   go_loopw [5,6] (fun q j wr=>∃m:Nat,m≤37∧j=.int .i64 m∧q=.int .i64 (atN c m)∧Below w.heap.size w wr) (fun _ j _=>37 - (intOf j).toNat)
   case atStart=>exact⟨0,by omega,rfl,rfl,HB⟩
   case round=>
    obtain⟨m,hm,rfl,rfl,HB2⟩:=hrel
    by_cases hlm:m<37
    ·have hmz:m<sg.size:=by omega
     go_wp2
     refine RW.start (fun w'=>Below w.heap.size w w') (by kernel_rfl) (by kernel_rfl) HB2.drew ?_
     clear HB2
     repeat (first
      |(refine' RW.val (by rfl) ?_ ?_;rotate_left;(focus (intro w' hS;have HB2:=hS;clear hS;go_simp;rfl));simp only[Act.put,List.setIfInBounds_toArray,List.set_cons_zero,List.set_cons_succ])
      |(refine RW.off (by rfl) ?_;simp only[Act.put,List.setIfInBounds_toArray,List.set_cons_zero,List.set_cons_succ]))
     refine RW.done (fun w' hS=>?_)
     have HB2:=hS;clear hS
     have hgm:sg[m]'hmz=signL.getD m 0:=HG.out m hmz
     by_cases he:signL.getD m 0=c
     ·have ht:(((sg[m]'hmz).toNat:Int) == ((s[k]'hlt).toNat:Int))=true:=by rw[hgm,HC.out,he];simp
      clear hgm
      go_wp2
      go_roundw
      case rel=>exact⟨m+1,by omega,by go_num,by rw[atN,if_pos he],HB2⟩
      case measure=>simp[intOf];omega
     ·have ht:(((sg[m]'hmz).toNat:Int) == ((s[k]'hlt).toNat:Int))=false:=by
       rw[hgm,HC.out,beq_eq_false_iff_ne]
       intro h
       apply he
       have:=Int.ofNat.inj h
       exact UInt8.toNat_inj.1 this
      clear hgm
      go_wp2
      go_roundw
      case rel=>exact⟨m+1,by omega,by go_num,by rw[atN,if_neg he],HB2⟩
      case measure=>simp[intOf];omega
    ·obtain rfl:m=37:=by omega
     have hall2:signB k c.toNat=true→Hid (∀j,∀h:j<s.size,j<k+1→signB j (s[j]'h).toNat=true):=fun h=>Lib.hid fun j hj hjk=>by
      rcases(by omega:j<k∨j=k) with h2|rfl
      ·exact hall.out j hj h2
      ·rw[HC.out];exact h
     have hbad:signB k c.toNat=false→r=false:=fun h=>HR.out.symm.trans (nameB_bad hlt (by rw[HC.out];exact h))
     obtain⟨A,hA⟩:∃A,decide (atN c 37<0)=A:=⟨_,rfl⟩
     obtain⟨D,hD⟩:∃D,decide (25<atN c 37)=D:=⟨_,rfl⟩
     obtain⟨C,hC⟩:∃C,((k:Int) == 0)=C:=⟨_,rfl⟩
     have hC2:decide (k=0)=C:=by rw[←hC,Bool.eq_iff_iff];simp
     have hs2:=HS.out
     rw[hA,hD,hC2] at hs2
     clear hC2
     obtain⟨q,hq⟩:∃q,atN c 37=q:=⟨_,rfl⟩
     rw[hq] at hA hD ⊢
     clear HC HG hall HS hq
     have hsv:signB k c.toNat=!(A || (C && D)):=by rw[hs2,Bool.not_not]
     clear hs2
     cases A <;> cases C <;> cases D <;> simp only[Bool.false_or,Bool.true_or,Bool.false_and,Bool.true_and,Bool.and_false,Bool.or_false,Bool.and_true,Bool.not_true,Bool.not_false] at hsv
     all_goals first
      |(have hall3:=hall2 hsv
        clear hall2 hbad hsv
        go_wp2
        go_roundw
        case rel=>exact⟨k+1,by omega,by go_num,HB2,hall3⟩
        case measure=>simp[intOf];omega)
      |(obtain rfl:=hbad hsv
        clear hall2 hbad hsv HR
        go_wp2
        go_ret
        exact⟨rfl,HB2⟩)
  ·obtain rfl:k=s.size:=by omega
   have hn:nameB s=decide (1≤s.size∧s.size≤15):=by rw[nameB,decide_eq_true (fun i h=>hall.out i h h),Bool.true_and]
   rw[HR.out] at hn
   have HN:=Lib.hid hn
   clear hn hall HG
   go_wp2
   all_goals
    go_ret
    refine⟨ret_bool ?_,HB⟩
    have hn:=HN.out
    clear HN
    subst hn
    rw[Bool.eq_iff_iff]
    simp only[decide_eq_true_eq,Bool.false_eq_true]
    (first|(constructor <;> intro h <;> omega)|(exact⟨fun h=>h.elim,fun h=>by omega⟩))
def rightB (vk bits:Int) (tx:ByteArray) (k l:Int):Bool:=mayB k l && decide (vk=k) && decide ((tx.size:Int)=if k=12 then l else 0) && fitB bits k l
theorem may_is (s:ByteArray) (k l:Int) (r:Bool) (h:mayB k l=r) (w:World):Calls Tryz.prog 127 #[.agg #[.string s,.int .i64 k,.int .i64 l]] w fun e w'=>e=.returned (.bool r)∧Below w.heap.size w w':=h▸may_calls s k l w
theorem Right_calls (vk bits:Int) (tx s:ByteArray) (k l:Int) (h0:0≤bits) (h1:bits<18446744073709551616) (w:World):
 Calls Tryz.prog 95 #[.agg #[.int .i64 vk,.int .u64 bits,.string tx],.agg #[.string s,.int .i64 k,.int .i64 l]] w fun e w'=>e=.returned (.bool (rightB vk bits tx k l))∧Below w.heap.size w w':=by
 have hmf:∀(fn:Fn) (first cap:Array Value) (w:World),(Instr.makeFunc fn first cap).run Tryz.prog w=.ok (.func fn first cap) w:=fun _ _ _ _=>rfl
 obtain⟨r,hr⟩:∃r,mayB k l=r:=⟨_,rfl⟩
 have H:=Lib.hid hr
 clear hr
 cases r
 ·go_enter Tryz.func95,Tryz.ntmps95
  go_wp2_with (first|(go_at_call 127;refine(may_is _ _ _ _ H.out _).mono ?_;rintro e w1 ⟨rfl,hb⟩;obtain⟨hc,hf⟩:=bcell hb))
  all_goals
   go_ret
   refine⟨ret_bool (by simp[rightB,H.out]),?_⟩
   exact below_seq ((below_new _).alloc (by simp) _) hb
 ·go_enter Tryz.func95,Tryz.ntmps95
  go_wp2_with (first|(go_at_call 127;refine(may_is _ _ _ _ H.out _).mono ?_;rintro e w1 ⟨rfl,hb⟩;obtain⟨hc,hf⟩:=bcell hb)|(go_at_call 132;refine(fits_calls _ _ s k l bits h0 h1 _ (by rw[hc _ _ (by simp)];simp[go_sem]) (by rw[hc _ _ (by simp)];simp[go_sem]) (by rw[hc _ _ (by simp)];simp[go_sem]) (by rw[hc _ _ (by simp;omega)];simp[go_sem])).mono ?_;rintro e w2 ⟨rfl,hb2⟩))
  all_goals
   go_ret
   refine⟨ret_bool (by rw[rightB,H.out];simp only[beq_iff_eq,beq_eq_false_iff_ne,ne_eq] at *;first|(simp[*];done)|grind),?_⟩
   first|exact below_seq (below_seq ((below_new _).alloc (by simp) _) hb) hb2|exact below_seq ((below_new _).alloc (by simp) _) hb
theorem Right_is (vk bits:Int) (tx s:ByteArray) (k l:Int) (h0:0≤bits) (h1:bits<18446744073709551616) (r:Bool) (h:rightB vk bits tx k l=r) (w:World):
 Calls Tryz.prog 95 #[.agg #[.int .i64 vk,.int .u64 bits,.string tx],.agg #[.string s,.int .i64 k,.int .i64 l]] w fun e w'=>e=.returned (.bool r)∧Below w.heap.size w w':=h▸Right_calls vk bits tx s k l h0 h1 w
theorem Long_is (s:ByteArray) (k l:Int) (r:Int) (h:longZ k l=r) (w:World):Calls Tryz.prog 89 #[.agg #[.string s,.int .i64 k,.int .i64 l]] w fun e w'=>e=.returned (.int .i64 r)∧Below w.heap.size w w':=h▸Long_calls s k l w
def castsB (k l k2 l2:Int):Bool:=
 if longZ k l=0∨longZ k2 l2=0 then false
 else if k=k2 then true
 else if k=9 then btw 1 k2 4 || (btw 5 k2 8 && decide (longZ k l<longZ k2 l2))
 else if btw 1 k 4=true then(btw 1 k2 8 && decide (longZ k l<longZ k2 l2)) || decide (k2=10)
 else if btw 5 k 8=true then(btw 5 k2 8 && decide (longZ k l<longZ k2 l2)) || decide (k2=10)
 else decide (k=10) && decide (k2=8)
theorem Casts_calls (s s2:ByteArray) (k l k2 l2:Int) (w:World):Calls Tryz.prog 108 #[.agg #[.string s,.int .i64 k,.int .i64 l],.agg #[.string s2,.int .i64 k2,.int .i64 l2]] w fun e w'=>e=.returned (.bool (castsB k l k2 l2))∧Below w.heap.size w w':=by
 go_enter Tryz.func108,Tryz.ntmps108
 go_wp2_with (first|(go_at_call 109;refine(plain_calls _ _).mono ?_;rintro e w' ⟨rfl,rfl⟩)|(go_at_call 111;refine(signed_calls _ _).mono ?_;rintro e w' ⟨rfl,rfl⟩)|(go_at_call 89;refine(Long_calls _ _ _ _).mono ?_;rintro e w1 ⟨rfl,hb⟩;obtain⟨hc,hf⟩:=bcell hb))
 obtain⟨W,hW⟩:∃W:World,W=(w.alloc (.cells #[.string s,.int .i64 k,.int .i64 l] 68)).alloc (.cells #[.string s2,.int .i64 k2,.int .i64 l2] 68):=⟨_,rfl⟩
 have hBW:Below w.heap.size w W:=hW▸(below_new _).alloc (by simp) _
 have b1:FBox W w.heap.size s k l:=hW▸(FBox.new w s k l).alloc _
 have b2:FBox W (w.heap.size+1) s2 k2 l2:=hW▸(by simpa using FBox.new (w.alloc (.cells #[.string s,.int .i64 k,.int .i64 l] 68)) s2 k2 l2)
 rw[←hW]
 clear hW
 refine RW.start (fun w'=>Below w.heap.size w w'∧FBox w' w.heap.size s k l∧FBox w' (w.heap.size+1) s2 k2 l2) (by kernel_rfl) (by kernel_rfl) ⟨hBW.drew,b1,b2⟩ ?_
 clear b1 b2 hBW
 repeat (first
  |(refine' RW.val (by rfl) ?_ ?_;rotate_left;(focus (intro w' hS;obtain⟨hB,⟨c0,c1,c2⟩,⟨d0,d1,d2⟩⟩:=hS;go_simp;rfl));simp only[Act.put,List.setIfInBounds_toArray,List.set_cons_zero,List.set_cons_succ])
  |(refine RW.off (by rfl) ?_;simp only[Act.put,List.setIfInBounds_toArray,List.set_cons_zero,List.set_cons_succ])
  |(refine' RW.call (by rfl) ?_ ?_ ?_
    rotate_left 3
    (focus (intro w' hS;obtain⟨hB,⟨c0,c1,c2⟩,⟨d0,d1,d2⟩⟩:=hS;go_simp;exact⟨rfl,rfl⟩))
    (focus
      intro w' hS
      obtain⟨hB,⟨c0,c1,c2⟩,⟨d0,d1,d2⟩⟩:=hS
      first
       |(refine(Long_calls _ _ _ _).mono ?_;rintro e w1 ⟨rfl,hb⟩;exact⟨rfl,⟨(below_seq hB hb),⟨(cell_below (B:=0) hb c0),(cell_below (B:=0) hb c1),(cell_below (B:=0) hb c2)⟩,⟨(cell_below (B:=0) hb d0),(cell_below (B:=0) hb d1),(cell_below (B:=0) hb d2)⟩⟩⟩))
    simp only[Act.put,List.setIfInBounds_toArray,List.set_cons_zero,List.set_cons_succ]))
 refine RW.done (fun w' hS=>?_)
 obtain⟨hB,⟨c0,c1,c2⟩,⟨d0,d1,d2⟩⟩:=hS
 go_wp2_with fail
 refine RW.start (fun w'=>Below w.heap.size w w'∧FBox w' w.heap.size s k l∧FBox w' (w.heap.size+1) s2 k2 l2) (by kernel_rfl) (by kernel_rfl) ⟨hB.drew,⟨c0,c1,c2⟩,⟨d0,d1,d2⟩⟩ ?_
 clear c0 c1 c2 d0 d1 d2 hB w'
 repeat (first
  |(refine' RW.val (by rfl) ?_ ?_;rotate_left;(focus (intro w' hS;obtain⟨hB,⟨c0,c1,c2⟩,⟨d0,d1,d2⟩⟩:=hS;go_simp;rfl));simp only[Act.put,List.setIfInBounds_toArray,List.set_cons_zero,List.set_cons_succ])
  |(refine RW.off (by rfl) ?_;simp only[Act.put,List.setIfInBounds_toArray,List.set_cons_zero,List.set_cons_succ]))
 refine RW.done (fun w' hS=>?_)
 obtain⟨hB,⟨c0,c1,c2⟩,⟨d0,d1,d2⟩⟩:=hS
 clear c0 c1 c2 d0 d1 d2
 go_wp2_with (first|(go_at_call 109;refine(plain_calls _ _).mono ?_;rintro e w' ⟨rfl,rfl⟩)|(go_at_call 111;refine(signed_calls _ _).mono ?_;rintro e w' ⟨rfl,rfl⟩))
 all_goals
  go_ret
  refine⟨ret_bool ?_,hB⟩
  clear hB
  try simp only[beq_iff_eq,beq_eq_false_iff_ne,ne_eq] at *
  rw[Bool.eq_iff_iff]
  try simp only[castsB,btw,decide_eq_true_eq,decide_eq_false_iff_not] at *
  grind
theorem mayB_12 {l:Int}:mayB 12 l=btw 1 l 64:=by simp[mayB]
theorem mayB_of {k l:Int} (h:mayB k l=true) (hk:¬k=12):l=0∧0<sizeZ k:=by
 simp[mayB,hk] at h;omega
def zeroL (k l:Int):ByteArray:=if k=12 then strL (List.replicate l.toNat 0) else⟨#[]⟩
def zeroV (k l:Int):Value:=if mayB k l=true then .agg #[.int .i64 k,.int .u64 0,.string (zeroL k l)] else .agg #[.int .i64 0,.int .u64 0,.string ⟨#[]⟩]
def encL (bits:Int) (tx:ByteArray) (k l:Int):List UInt8:=if k=12 then bl tx else leL bits (longZ k l).toNat
theorem Encode_none (vk bits:Int) (tx s:ByteArray) (k l:Int) (h0:0≤bits) (h1:bits<18446744073709551616) (h:rightB vk bits tx k l=false) (w:World):
 Calls Tryz.prog 61 #[.agg #[.int .i64 vk,.int .u64 bits,.string tx],.agg #[.string s,.int .i64 k,.int .i64 l]] w fun e w'=>e=.returned (.tuple #[.slice none 0 0,.int .i64 50])∧Below w.heap.size w w':=by
 have H:=Lib.hid h
 clear h
 go_enter Tryz.func61,Tryz.ntmps61
 go_wp2_with (first|(go_at_call 95;refine(Right_is _ _ _ _ _ _ h0 h1 _ H.out _).mono ?_;rintro e w1 ⟨rfl,hb⟩))
 go_ret2
 exact⟨rfl,below_seq ((below_new _).alloc (by simp) _) hb⟩
theorem long_cases {k l:Int} (h:mayB k l=true) (hk:¬k=12):longZ k l=1∨longZ k l=2∨longZ k l=4∨longZ k l=8:=by
 have h2:=(mayB_of h hk).2
 rw[longZ,if_pos h,if_neg hk]
 unfold sizeZ at h2 ⊢
 split <;> (try split) <;> (try split) <;> (try split) <;> simp_all
theorem long_12 {l:Int} (h:mayB 12 l=true):longZ 12 l=l:=by simp[longZ,h]
theorem right_may {vk bits:Int} {tx:ByteArray} {k l:Int} (h:rightB vk bits tx k l=true):mayB k l=true∧vk=k∧((tx.size:Int)=if k=12 then l else 0)∧fitB bits k l=true:=by
 simp only[rightB,Bool.and_eq_true,decide_eq_true_eq] at h
 exact⟨h.1.1.1,h.1.1.2,h.1.2,h.2⟩
theorem Encode_some (vk bits:Int) (tx s:ByteArray) (k l:Int) (h0:0≤bits) (h1:bits<18446744073709551616) (h:rightB vk bits tx k l=true) (w:World):
 Calls Tryz.prog 61 #[.agg #[.int .i64 vk,.int .u64 bits,.string tx],.agg #[.string s,.int .i64 k,.int .i64 l]] w fun e w'=>∃v,e=.returned (.tuple #[v,.int .i64 0])∧OutB w' v (encL bits tx k l)∧Below w.heap.size w w':=by
 have H:=Lib.hid h
 have hm:=(right_may h).1
 clear h
 by_cases hk:k=12
 ·subst hk
  have hcb:=conv_bytes tx
  clear hm
  go_enter Tryz.func61,Tryz.ntmps61
  go_wp2_with (first|(go_at_call 95;refine(Right_is _ _ _ _ _ _ h0 h1 _ H.out _).mono ?_;rintro e w1 ⟨rfl,hb⟩;obtain⟨hc,hf⟩:=bcell hb))
  go_ret2
  refine⟨.slice (some ⟨w1.heap.size,0,none⟩) tx.size (grownCap w1 tx.size 0 5),rfl,⟨_,_,by rw[encL,if_pos rfl,bl_length],?_,?_⟩,?_⟩
  ·rw[encL,if_pos rfl,bl_length];exact grownCap_ge ..
  ·rw[encL,if_pos rfl];exact bytesWorld_rd _ _ _
  ·exact below_seq (below_seq ((below_new _).alloc (by simp) _) hb) (bytesWorld_below _ _ _)
 ·have hlc:=long_cases hm hk
  have hk':(k == 12)=false:=by simpa using hk
  obtain⟨n,hn⟩:∃n:Nat,longZ k l=n:=⟨(longZ k l).toNat,by omega⟩
  have hn8:n≤8:=by omega
  have HN:=Lib.hid hn
  clear hn hlc hm
  go_enter Tryz.func61,Tryz.ntmps61
  go_wp2_with (first
   |(go_at_call 95;refine(Right_is _ _ _ _ _ _ h0 h1 _ H.out _).mono ?_;rintro e w1 ⟨rfl,hb⟩;obtain⟨hc,hf⟩:=bcell hb;obtain⟨z0,z1⟩:w.heap.size<w1.heap.size∧w.heap.size+1<w1.heap.size:=by (have:=hb.size;simp at this;omega))
   |(go_at_call 94;refine(Put_some bits 8 (by omega) (by simp[fitsB,widthB,topZ];omega) h0 h1 _).mono ?_;rintro e w2 ⟨v,rfl,hown,hb2⟩;obtain⟨A,c,rfl,hlen,_,hrd⟩:=own_rd hown;obtain⟨hc2,hf2⟩:=bcell hb2;clear hown)
   |(go_at_call 89;refine(Long_is _ _ _ _ HN.out _).mono ?_;rintro e w3 ⟨rfl,hb3⟩))
  go_ret2
  have hlt:(leL bits 8).take n=leL bits n:=by
   apply List.ext_getElem?
   intro j
   simp only[leL,List.getElem?_take,List.getElem?_map,List.getElem?_range']
   by_cases h:j<n
   ·simp[h,show j<8 by omega]
   ·simp[h,List.getElem?_eq_none (show(List.range n).length≤j by simp;omega)]
  have hel:encL bits tx k l=leL bits n:=by rw[encL,if_neg hk,HN.out];rfl
  have hrd3:=(hrd.below hb3).take n
  rw[bytesV,←List.map_take,hlt] at hrd3
  refine⟨.slice A n c,rfl,⟨A,c,by rw[hel,leL_length],by rw[hel,leL_length];omega,by rw[hel];exact hrd3⟩,?_⟩
  exact below_seq (below_seq (below_seq ((below_new _).alloc (by simp) _) hb) hb2) hb3
end
end Go.Proofs.YteembinfgbapgaaGreat
