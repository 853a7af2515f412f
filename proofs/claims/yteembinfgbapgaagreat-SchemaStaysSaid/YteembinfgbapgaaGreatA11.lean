/- Merged out of: Kt Ma Mb Mc Md Me. -/
import Derived.Test.YteembinfgbapgaaGreatA10
import Derived.Deep.DeepCutAuto
import Derived.Test.YteembinfgbapgaaGreatA09
import Derived.Laws.CopyOwn
import Derived.BigRegion
set_option linter.unusedSimpArgs false
set_option linter.unusedVariables false
set_option maxRecDepth 100000
set_option maxHeartbeats 8000000
namespace Go.Proofs.YteembinfgbapgaaGreat
section
open Go.RowKit
theorem rZero_v (s:ByteArray) (k l:Int) (v:Value) (h:zeroV k l=v) (w:World):Calls Tryz.prog 117 #[.agg #[.string s,.int .i64 k,.int .i64 l]] w fun e w'=>e=.returned v∧Below w.heap.size w w':=h▸rZero_calls s k l w
structure CS (w0 w:World) (q:Nat) (bits:Int) (tx s s2:ByteArray) (l n:Int):Prop where
 v:VBox w w0.heap.size 12 bits tx
 t:FBox w (w0.heap.size+1+1) s2 12 n
 r:VBox w (w0.heap.size+1+1+1) 0 0 ⟨#[]⟩
 o:VBox w q 12 bits ⟨#[]⟩
 fr:∀i,w.frozen? ⟨w0.heap.size+1+1+1,i,none⟩=false
 fo:∀i,w.frozen? ⟨q,i,none⟩=false
 hq:q<w.heap.size
theorem CS.below {w0 w w1:World} {q:Nat} {bits:Int} {tx s s2:ByteArray} {l n:Int} (h:CS w0 w q bits tx s s2 l n) (hb:Below w.heap.size w w1):CS w0 w1 q bits tx s s2 l n:=by
 have hr:=World.block_lt_of_cell? w _ h.r.1
 exact⟨h.v.below hb,h.t.below hb,h.r.below hb,h.o.below hb,fun i=>((bcell hb).2 _ i hr).trans (h.fr i),fun i=>((bcell hb).2 _ i h.hq).trans (h.fo i),by have:=hb.size;have:=h.hq;omega⟩
theorem pad_is (tx:ByteArray) (n:Nat):(tx++strL (List.replicate n 0)).extract 0 n=strL (padL (bl tx) n):=by
 have e:tx=strL (bl tx):=(strL_bl tx).symm
 rw[e,strL_append,strL_extract,bl_strL]
 congr 1
 unfold padL
 rw[List.take_append,List.take_replicate]
 congr 2
 omega
theorem rCast_12 (vk bits:Int) (tx s s2:ByteArray) (k l:Int) (n:Nat) (h0:0≤bits) (h1:bits<18446744073709551616) (hr:rightB vk bits tx k l=true) (hc:castsB k l 12 n=true) (w:World):
 Calls Tryz.prog 80 #[.agg #[.int .i64 vk,.int .u64 bits,.string tx],.agg #[.string s,.int .i64 k,.int .i64 l],.agg #[.string s2,.int .i64 12,.int .i64 n]] w fun e w'=>e=.returned (.tuple #[.agg #[.int .i64 12,.int .u64 bits,.string (strL (padL (bl tx) n))],.int .i64 0])∧Below w.heap.size w w':=by
 have hm2:=(casts_12 hc).2
 have hn:n≤64∧1≤n:=by have:=btw_iff.1 (mayB_12▸hm2);omega
 obtain⟨hm,hvk,hsz,-⟩:=right_may hr
 obtain rfl:=(casts_12 hc).1
 subst hvk
 have htl:tx.size≤64:=by
  have:=btw_iff.1 (mayB_12▸hm)
  rw[if_pos rfl] at hsz;omega
 have k2:(12:Int)=12:=rfl
 have HB:Below w.heap.size w ((((w.alloc (.cells #[.int .i64 12,.int .u64 bits,.string tx] 71)).alloc (.cells #[.string s,.int .i64 12,.int .i64 l] 68)).alloc (.cells #[.string s2,.int .i64 12,.int .i64 n] 68)).alloc (.cells #[.int .i64 0,.int .u64 0,.string ⟨#[]⟩] 71)):=(((below_new _).alloc (by simp) _).alloc (by simp;omega) _).alloc (by simp;omega) _
 have hss:=setCell_twice
 have hz:zeroV 12 n=.agg #[.int .i64 12,.int .u64 0,.string (strL (List.replicate n 0))]:=by rw[zeroV,if_pos hm2,zeroL,if_pos rfl];simp
 have HZ:=Lib.hid hz
 have HR:=Lib.hid hr
 have HC:=Lib.hid hc
 have hpad:=pad_is tx n
 have hsz2:(tx++strL (List.replicate n 0)).size=tx.size+n:=by rw[ByteArray.size_append,strL_size,List.length_replicate]
 have hzs:(strL (List.replicate n 0)).size=n:=by rw[strL_size,List.length_replicate]
 generalize strL (padL (bl tx) n)=out at *
 generalize strL (List.replicate n 0)=zs at *
 have hov:¬9223372036854775807<tx.size+zs.size:=by omega
 have hov2:¬9223372036854775807<tx.size+n:=by omega
 have i2:((n:Int)≤((tx.size+n:Nat):Int)):=by omega
 have i3:((n:Int)≤(tx.size:Int)+n):=by omega
 obtain⟨n64,n1⟩:=hn
 have hap:(tx++zs).size=tx.size+zs.size:=by rw[hzs];exact hsz2
 have i1:((n:Int)≤((tx++zs).size:Int)):=by rw[hsz2];omega
 clear hr hc hz hm hm2 hsz
 go_enter Tryz.func80,Tryz.ntmps80
 go_upto_region 7 with (first
  |(go_at_call 115;refine(rRight_is5 _ _ _ _ _ _ h0 h1 _ HR.out _).mono ?_;rintro e w1 ⟨rfl,hb⟩;obtain⟨hc,hf⟩:=bcell hb;obtain⟨z0,z1,z2,z3⟩:w.heap.size<w1.heap.size∧w.heap.size+1<w1.heap.size∧w.heap.size+1+1<w1.heap.size∧w.heap.size+1+1+1<w1.heap.size:=(by have hz_:=hb.size;(try simp at hz_);omega);have n_:Below w.heap.size w _:=below_seq (by repeat (first|exact HB|refine Below.setCell ?_ (by dsimp only;omega) _|refine Below.alloc ?_ (by have hs_:=HB.size;first|(simp;done)|(simp;omega)|omega) _|apply Below.drew)) hb;clear HB;have HB:=n_;clear n_)
  |(go_at_call 116;refine(rCasts_is _ _ _ _ _ _ _ HC.out _).mono ?_;rintro e w2 ⟨rfl,hb⟩;obtain⟨hc,hf⟩:=bcell hb;obtain⟨z0,z1,z2,z3⟩:w.heap.size<w2.heap.size∧w.heap.size+1<w2.heap.size∧w.heap.size+1+1<w2.heap.size∧w.heap.size+1+1+1<w2.heap.size:=(by have hz_:=hb.size;(try simp at hz_);omega);have n_:Below w.heap.size w _:=below_seq (by repeat (first|exact HB|refine Below.setCell ?_ (by dsimp only;omega) _|refine Below.alloc ?_ (by have hs_:=HB.size;first|(simp;done)|(simp;omega)|omega) _|apply Below.drew)) hb;clear HB;have HB:=n_;clear n_))
 have g1:CS w (w2.alloc (.cells #[.int .i64 12,.int .u64 bits,.string ⟨#[]⟩] 71)) w2.heap.size bits tx s s2 l n:=
  ⟨⟨by go_simp,by go_simp,by go_simp⟩,⟨by go_simp,by go_simp,by go_simp⟩,⟨by go_simp,by go_simp,by go_simp⟩,⟨by go_simp,by go_simp,by go_simp⟩,fun i=>by go_simp,fun i=>by go_simp,by simp⟩
 have hB0:Below w.heap.size w (w2.alloc (.cells #[.int .i64 12,.int .u64 bits,.string ⟨#[]⟩] 71)):=HB.alloc (by have:=HB.size;omega) _
 have hqn:w.heap.size+1+1+1<w2.heap.size:=by omega
 generalize w2.heap.size=q at *
 refine RW.start (fun w'=>Below w.heap.size w w'∧CS w w' q bits tx s s2 l n) (by kernel_rfl) (by kernel_rfl) ⟨hB0.drew,g1.below (Below.refl _ _).drew⟩ ?_
 clear g1 hB0 HB hc hf hb
 repeat (first
  |(refine' RW.val (by rfl) ?_ ?_;rotate_left;(focus (intro w' hS;obtain⟨HB,hs⟩:=hS;obtain⟨⟨c0,c1,c2⟩,⟨d0,d1,d2⟩,⟨e0,e1,e2⟩,⟨f0,f1,f2⟩,fr,fo,hq⟩:=id hs;go_simp;rfl));simp only[Act.put,List.setIfInBounds_toArray,List.set_cons_zero,List.set_cons_succ])
  |(refine RW.off (by rfl) ?_;simp only[Act.put,List.setIfInBounds_toArray,List.set_cons_zero,List.set_cons_succ])
  |(refine' RW.call (by rfl) ?_ ?_ ?_
    rotate_left 3
    (focus (intro w' hS;obtain⟨HB,hs⟩:=hS;obtain⟨⟨c0,c1,c2⟩,⟨d0,d1,d2⟩,⟨e0,e1,e2⟩,⟨f0,f1,f2⟩,fr,fo,hq⟩:=id hs;go_simp;exact⟨rfl,rfl⟩))
    (focus
      intro w' hS
      obtain⟨HB,hs⟩:=hS;obtain⟨⟨c0,c1,c2⟩,⟨d0,d1,d2⟩,⟨e0,e1,e2⟩,⟨f0,f1,f2⟩,fr,fo,hq⟩:=id hs
      first
       |(refine(rZero_v _ _ _ _ HZ.out _).mono ?_;rintro e w1 ⟨rfl,hb⟩;exact⟨rfl,⟨(below_seq HB hb),(hs.below hb)⟩⟩))
    simp only[Act.put,List.setIfInBounds_toArray,List.set_cons_zero,List.set_cons_succ]))
 refine RW.done (fun w' hS=>?_)
 obtain⟨HB,hs⟩:=hS;obtain⟨⟨c0,c1,c2⟩,⟨d0,d1,d2⟩,⟨e0,e1,e2⟩,⟨f0,f1,f2⟩,fr,fo,hq⟩:=id hs
 go_wp2_with fail
 refine bodyPost_ret (v:=.tuple #[.agg #[.int .i64 12,.int .u64 bits,.string out],.int .i64 0]) (by simp[results,Tryz.results80,go_sem, *]) rfl ⟨rfl,?_⟩
 (repeat (first|exact HB|refine Below.setCell ?_ (by dsimp only;omega) _|refine Below.alloc ?_ (by have hs_:=HB.size;first|(simp;done)|(simp;omega)|omega) _|apply Below.drew))
theorem rCast_calls (vk bits:Int) (tx s s2:ByteArray) (k l k2 l2:Int) (h0:0≤bits) (h1:bits<18446744073709551616) (w:World):
 Calls Tryz.prog 80 #[.agg #[.int .i64 vk,.int .u64 bits,.string tx],.agg #[.string s,.int .i64 k,.int .i64 l],.agg #[.string s2,.int .i64 k2,.int .i64 l2]] w fun e w'=>e=.returned (.tuple #[castV vk bits tx k l k2 l2,.int .i64 (castE vk bits tx k l k2 l2)])∧Below w.heap.size w w':=by
 by_cases hr:rightB vk bits tx k l=true
 ·by_cases hc:castsB k l k2 l2=true
  ·rw[castV,if_pos ⟨hr,hc⟩,castE,if_pos hr,if_pos hc]
   by_cases hk:k2=12
   ·subst hk
    obtain⟨rfl,hm2⟩:=casts_12 hc
    have hb:=btw_iff.1 (mayB_12▸hm2)
    obtain⟨n,rfl⟩:∃n:Nat,l2=n:=⟨l2.toNat,by omega⟩
    have e:castZ bits 12 12=bits:=by simp[castZ]
    rw[e,castT,if_pos rfl,Int.toNat_natCast]
    exact rCast_12 vk bits tx s s2 12 l n h0 h1 hr hc w
   ·rw[castT,if_neg hk]
    have a12:(k2 == 12)=false:=by simpa using hk
    have hk1:=(may_kind (right_may hr).1).1
    by_cases c10:k2=10
    ·have a10:(k2 == 10)=true:=by simpa using c10
     by_cases c4:k≤4
     ·exact rCast_a vk bits tx s s2 k l k2 l2 h0 h1 hr hc a12 a10 (decide_eq_true c4) hk1 w
     ·have b4:decide (k≤4)=false:=decide_eq_false c4
      by_cases c8:k≤8
      ·by_cases cs:9223372036854775808≤bits
       ·exact rCast_c vk bits tx s s2 k l k2 l2 h0 h1 hr hc a12 a10 b4 (decide_eq_true c8) (decide_eq_true cs) w
       ·exact rCast_b vk bits tx s s2 k l k2 l2 h0 h1 hr hc a12 a10 b4 (decide_eq_true c8) (decide_eq_false cs) w
      ·exact rCast_d vk bits tx s s2 k l k2 l2 h0 h1 hr hc a12 a10 b4 (decide_eq_false c8) w
    ·have a10:(k2 == 10)=false:=by simpa using c10
     by_cases c8:k2=8
     ·have a8:(k2 == 8)=true:=by simpa using c8
      by_cases d10:k=10
      ·exact rCast_e vk bits tx s s2 k l k2 l2 h0 h1 hr hc a12 a10 a8 (by simpa using d10) w
      ·exact rCast_f vk bits tx s s2 k l k2 l2 h0 h1 hr hc a12 a10 a8 (by simpa using d10) w
     ·exact rCast_g vk bits tx s s2 k l k2 l2 h0 h1 hr hc a12 a10 (by simpa using c8) w
  ·have hc':castsB k l k2 l2=false:=by simpa using hc
   rw[castV,if_neg (fun h=>hc h.2),castE,if_pos hr,if_neg hc]
   exact rCast_not vk bits tx s s2 k l k2 l2 h0 h1 hr hc' w
 ·have hr':rightB vk bits tx k l=false:=by simpa using hr
  rw[castV,if_neg (fun h=>hr h.1),castE,if_neg hr]
  exact rCast_wrong vk bits tx s s2 k l k2 l2 h0 h1 hr' w
structure Mv where
 f:Int
 d:Vl
structure Tb where
 o:List Fd
 n:List Fd
 m:List Mv
instance:DecidableEq Vl:=fun a b=>decidable_of_iff (a.k=b.k∧a.b=b.b∧a.t=b.t) (by cases a;cases b;simp)
instance:DecidableEq Mv:=fun a b=>decidable_of_iff (a.f=b.f∧a.d=b.d) (by cases a;cases b;simp)
def cellsM (ms:List Mv):List Value:=ms.flatMap fun m=>[.int .i64 m.f,.int .i64 m.d.k,.int .u64 m.d.b,.string m.d.t]
theorem cellsM_append (a b:List Mv):cellsM (a++b)=cellsM a++cellsM b:=by simp[cellsM]
theorem cellsM_get {ms:List Mv} {i:Nat} {m:Mv} (h:ms[i]?=some m):(cellsM ms)[i * 4]?=some (.int .i64 m.f)∧(cellsM ms)[i * 4+1]?=some (.int .i64 m.d.k)∧(cellsM ms)[i * 4+2]?=some (.int .u64 m.d.b)∧(cellsM ms)[i * 4+3]?=some (.string m.d.t):=by
 induction ms generalizing i with
 |nil=>simp at h
 |cons g r ih=>
  cases i with
  |zero=>simp at h;subst h;exact⟨rfl,rfl,rfl,rfl⟩
  |succ i=>
   have:=ih (i:=i) (by simpa using h)
   rw[cellsM,List.flatMap_cons]
   refine⟨?_,?_,?_,?_⟩
   ·rw[show (i+1) * 4=i * 4+4 by omega,List.getElem?_append_right (by simp)];simpa[cellsM] using this.1
   ·rw[show (i+1) * 4+1=i * 4+1+4 by omega,List.getElem?_append_right (by simp)];simpa[cellsM] using this.2.1
   ·rw[show (i+1) * 4+2=i * 4+2+4 by omega,List.getElem?_append_right (by simp)];simpa[cellsM] using this.2.2.1
   ·rw[show (i+1) * 4+3=i * 4+3+4 by omega,List.getElem?_append_right (by simp)];simpa[cellsM] using this.2.2.2
theorem Rd.mv {w:World} {A:Option Addr} {ms:List Mv} (h:Rd w A (cellsM ms)) {k:Nat} {m:Mv} (hm:ms[k]?=some m):∃ad,A=some ad∧w.cell? (ad.add (k * 4))=some (.int .i64 m.f)∧w.cell? ⟨(ad.add (k * 4)).block,(ad.add (k * 4)).off+(0+1),none⟩=some (.int .i64 m.d.k)∧
 w.cell? ⟨(ad.add (k * 4)).block,(ad.add (k * 4)).off+(1+1),none⟩=some (.int .u64 m.d.b)∧w.cell? ⟨(ad.add (k * 4)).block,(ad.add (k * 4)).off+(2+1),none⟩=some (.string m.d.t):=by
 obtain⟨g0,g1,g2,g3⟩:=cellsM_get hm
 obtain⟨ad,rfl,h0⟩:=h.at g0
 obtain⟨_,e1,h1⟩:=h.at g1
 obtain⟨_,e2,h2⟩:=h.at g2
 obtain⟨_,e3,h3⟩:=h.at g3
 cases e1;cases e2;cases e3
 rw[add_part _ _ 0] at h1
 rw[add_part _ _ 1] at h2
 rw[add_part _ _ 2] at h3
 exact⟨ad,rfl,h0,h1,h2,h3⟩
def okMv (o:List Fd) (g:Fd) (m:Mv):Bool:=
 if m.f=-1 then rightB m.d.k m.d.b m.d.t g.k g.l && (decide (g.k≠11) || decide (m.d.b=0))
 else decide (0≤m.f) && (match o[m.f.toNat]? with|none=>false|some f=>decide (m.d=Vl.z) && castsB f.k f.l g.k g.l)
def okAt (t:Tb) (k:Nat):Bool:=match t.m[k]?,t.n[k]? with|some m,some g=>okMv t.o g m|_,_=>false
def rightT (t:Tb):Bool:=rightF t.o && rightF t.n && decide (t.m.length=t.n.length) && decide (∀k,k<t.m.length→okAt t k=true)
def keepT (l:List Fd):Tb:=if rightF l=true then⟨l,l,(List.range l.length).map fun k:Nat=>⟨(k:Int),Vl.z⟩⟩ else⟨[],[],[]⟩
def MvW (ms:List Mv):Prop:=∀m∈ms,0≤m.d.b∧m.d.b<18446744073709551616
def TV (w:World) (v:Value) (t:Tb):Prop:=∃A c B d C e,v=.agg #[.slice A t.o.length c,.slice B t.n.length d,.slice C t.m.length e]∧Rd w A (cellsF t.o)∧Rd w B (cellsF t.n)∧Rd w C (cellsM t.m)
theorem TV.below {w w1:World} {v:Value} {t:Tb} (h:TV w v t) (hb:Below w.heap.size w w1):TV w1 v t:=by
 obtain⟨A,c,B,d,C,e,hv,h0,h1,h2⟩:=h
 exact⟨A,c,B,d,C,e,hv,h0.below hb,h1.below hb,h2.below hb⟩
def TBox (w:World) (b:Nat) (x y z:Value):Prop:=w.cell? ⟨b,0,none⟩=some x∧w.cell? ⟨b,1,none⟩=some y∧w.cell? ⟨b,2,none⟩=some z
theorem TBox.below {w w1:World} {b:Nat} {x y z:Value} (h:TBox w b x y z) (hb:Below w.heap.size w w1):TBox w1 b x y z:=⟨cell_below (B:=0) hb h.1,cell_below (B:=0) hb h.2.1,cell_below (B:=0) hb h.2.2⟩
theorem TBox.new (w:World) (x y z:Value) (T:TypeId):TBox (w.alloc (.cells #[x,y,z] T)) w.heap.size x y z:=⟨cell_new _ _ _ _ _ rfl,cell_new _ _ _ _ _ rfl,cell_new _ _ _ _ _ rfl⟩
theorem infoMv:(Tryz.prog.info? 137).map (fun i=>(i.zero,i.size,i.bytes))=some (some (.agg #[.int .i64 0,.int .i64 0,.int .u64 0,.string ⟨#[]⟩]),4,40):=by kernel_rfl
theorem infoMr:(Tryz.prog.info? 157).map (fun i=>(i.zero,i.size,i.bytes))=some (some (.agg #[.int .i64 0,.int .i64 0,.int .u64 0,.string ⟨#[]⟩]),4,40):=by kernel_rfl
theorem CloneF_calls (A:Option Addr) (c:Nat) (l:List Fd) (w:World) (hA:Rd w A (cellsF l)) (hl:l.length≤4398046511104) (hlc:l.length≤c):
 Calls Tryz.prog 35 #[.slice A l.length c] w fun e w'=>∃v,e=.returned v∧w'.ownsRow w.heap.size 68 3 v l.length (cellsF l)∧Below w.heap.size w w':=by
 obtain⟨i0,hi,hz0,hz1,hz2⟩:=info_parts infoFd
 cases A with
 |none=>
  obtain rfl:l=[]:=by
   cases l with
   |nil=>rfl
   |cons x r=>obtain⟨ad,e,_⟩:=hA (by simp[cellsF]);cases e
  have heq:∀w:World,(binOp .eql 27 (.slice none 0 c) (.slice none 0 0)).run Tryz.prog w=.ok (.bool true) w:=fun w=>Lib.run_eql_slice_nil (P:=Tryz.prog) w 27 68 none 0 c 0 0 Tryz.underlying27
  go_enter Tryz.func35,Tryz.ntmps35
  go_wp2
  go_ret
  exact⟨_,rfl,own_nil _ _ _ _,Below.refl _ _⟩
 |some ad=>
  have heq:∀w:World,(binOp .eql 27 (.slice (some ad) l.length c) (.slice none 0 0)).run Tryz.prog w=.ok (.bool false) w:=fun w=>Lib.run_eql_slice_nil (P:=Tryz.prog) w 27 68 (some ad) l.length c 0 0 Tryz.underlying27
  have hown:(w.alloc (.cells #[] 68)).ownsRow w.heap.size 68 3 (.slice (some ⟨w.heap.size,0,none⟩) 0 0) 0 []:=⟨rfl,.inr ⟨_,0,#[],rfl,Nat.le_refl _,World.alloc_heap_new _ _,Nat.le_refl _,Nat.zero_le _,rfl,rfl⟩⟩
  have hA2:=hA.below (below_new (.cells #[] 68))
  go_enter Tryz.func35,Tryz.ntmps35
  go_wp2_with (at_builtin;refine wpList_append_own _ rfl _ _ 27 rfl w.heap.size 68 i0 (.agg #[.string ⟨#[]⟩,.int .i64 0,.int .i64 0]) 3 32 Tryz.underlying27 hi hz0 hz1 hz2 rfl (by decide) _ _ _ rfl hown ad l.length c (cellsF l) rfl ?c0 ?c1 ?c2 ?c3 ?c4 ?c5 ?_)
  case c0=>rw[cellsF_length];omega
  case c1=>
   intro j u hj
   obtain⟨ad',e,h⟩:=hA2 (by rintro e;rw[e] at hj;simp at hj)
   cases e;exact h j u hj
  case c2=>
   intro u hu
   simp only[cellsF,List.mem_flatMap] at hu
   obtain⟨f,_,hu⟩:=hu
   simp at hu
   rcases hu with rfl|rfl|rfl <;> rfl
  case c3=>simp only[maxLen];omega
  case c4=>omega
  case c5=>simp
  intro v' w1 hown' hgrow _
  have hB:=(below_new (w:=w) (.cells #[] 68)).grown hgrow (by simp) (fun q hq=>own_base hown q hq)
  clear hown hgrow
  go_wp2
  go_ret
  exact⟨_,rfl,own_eq hown' (by simp) (by simp),hB⟩
theorem SlEqual_calls (A B:Option Addr) (c d:Nat) (a b:List Fd) (w:World) (hA:Rd w A (cellsF a)) (hB:Rd w B (cellsF b)) (ha:a.length≤9223372036854775807) (hb:b.length≤9223372036854775807):
 Calls Tryz.prog 141 #[.slice A a.length c,.slice B b.length d] w fun e w'=>e=.returned (.bool (sameFB a b))∧Below w.heap.size w w':=by
 by_cases hlen:a.length=b.length
 ·have hz:((a.length:Int) != (b.length:Int))=false:=by rw[hlen];simp
  obtain⟨r,hr⟩:∃r,sameFB a b=r:=⟨_,rfl⟩
  rw[hr]
  have HR:=Lib.hid hr
  have HL:=Lib.hid hlen
  clear hr
  obtain⟨m,hm⟩:∃m,b.length=m:=⟨_,rfl⟩
  rw[hm] at hz hlen ⊢
  have HM:=Lib.hid hm
  clear hm hlen hb
  go_enter Tryz.func141,Tryz.ntmps141
  go_wp2
  go_loopw [5,13] (fun _ i wr=>∃k:Nat,k≤a.length∧i=.int .i64 k∧Below w.heap.size w wr∧Hid (a.take k=b.take k)) (fun _ i _=>a.length - (intOf i).toNat)
  case atStart=>exact⟨0,by omega,rfl,Below.refl _ _,Lib.hid rfl⟩
  case round=>
   obtain⟨k,hk,rfl,HB,hall⟩:=hrel
   have hAr:=hA.below HB
   have hBr:=hB.below HB
   clear hA hB
   by_cases hlt:k<a.length
   ·have hlb:k<m:=by have:=HL.out;have:=HM.out;omega
    obtain⟨x,hx⟩:∃x,a[k]?=some x:=⟨_,List.getElem?_eq_getElem hlt⟩
    obtain⟨y,hy⟩:∃y,b[k]?=some y:=⟨_,List.getElem?_eq_getElem (by rw[HM.out];exact hlb)⟩
    obtain⟨ad,rfl,c0,c1,c2⟩:=hAr.fld hx
    obtain⟨bd,rfl,d0,d1,d2⟩:=hBr.fld hy
    have HX:=Lib.hid hx
    have HY:=Lib.hid hy
    clear hx hy hAr hBr
    have hi0:(0:Int)≤(k:Int):=by omega
    have hi1:(k:Int)<(a.length:Int):=by omega
    have hi2:(k:Int)<(m:Int):=by omega
    go_wp2
    rcases fd_ways x y with ⟨hne,h1⟩|⟨hne,h1,h2⟩|⟨hne,h1,h2,h3⟩|⟨he,h1,h2,h3⟩
    ·obtain rfl:r=false:=by
      rw[←HR.out];simp[sameFB];intro e
      have h1:=HX.out;rw[e,HY.out] at h1;exact hne (Option.some.inj h1).symm
     clear hne hall
     refine RW.start (fun w'=>Below w.heap.size w w'∧(w'.cell? (ad.add (k * 3))=some (.string x.s)∧w'.cell? ⟨(ad.add (k * 3)).block,(ad.add (k * 3)).off+(0+1),none⟩=some (.int .i64 x.k)∧w'.cell? ⟨(ad.add (k * 3)).block,(ad.add (k * 3)).off+(1+1),none⟩=some (.int .i64 x.l))∧(w'.cell? (bd.add (k * 3))=some (.string y.s)∧w'.cell? ⟨(bd.add (k * 3)).block,(bd.add (k * 3)).off+(0+1),none⟩=some (.int .i64 y.k)∧w'.cell? ⟨(bd.add (k * 3)).block,(bd.add (k * 3)).off+(1+1),none⟩=some (.int .i64 y.l))) (by kernel_rfl) (by kernel_rfl) ⟨HB.drew,⟨c0,c1,c2⟩,d0,d1,d2⟩ ?_
     clear HB c0 c1 c2 d0 d1 d2
     repeat (first
      |(refine' RW.val (by rfl) ?_ ?_;rotate_left;(focus (intro w' hS;obtain⟨HB,⟨c0,c1,c2⟩,d0,d1,d2⟩:=hS;go_simp;rfl));simp only[Act.put,List.setIfInBounds_toArray,List.set_cons_zero,List.set_cons_succ])
      |(refine RW.off (by rfl) ?_;simp only[Act.put,List.setIfInBounds_toArray,List.set_cons_zero,List.set_cons_succ]))
     refine RW.done (fun w' hS=>?_)
     obtain⟨HB,⟨c0,c1,c2⟩,d0,d1,d2⟩:=hS
     go_wp2
     go_ret
     exact⟨rfl,HB⟩
    ·obtain rfl:r=false:=by
      rw[←HR.out];simp[sameFB];intro e
      have h1:=HX.out;rw[e,HY.out] at h1;exact hne (Option.some.inj h1).symm
     clear hne hall
     refine RW.start (fun w'=>Below w.heap.size w w'∧(w'.cell? (ad.add (k * 3))=some (.string x.s)∧w'.cell? ⟨(ad.add (k * 3)).block,(ad.add (k * 3)).off+(0+1),none⟩=some (.int .i64 x.k)∧w'.cell? ⟨(ad.add (k * 3)).block,(ad.add (k * 3)).off+(1+1),none⟩=some (.int .i64 x.l))∧(w'.cell? (bd.add (k * 3))=some (.string y.s)∧w'.cell? ⟨(bd.add (k * 3)).block,(bd.add (k * 3)).off+(0+1),none⟩=some (.int .i64 y.k)∧w'.cell? ⟨(bd.add (k * 3)).block,(bd.add (k * 3)).off+(1+1),none⟩=some (.int .i64 y.l))) (by kernel_rfl) (by kernel_rfl) ⟨HB.drew,⟨c0,c1,c2⟩,d0,d1,d2⟩ ?_
     clear HB c0 c1 c2 d0 d1 d2
     repeat (first
      |(refine' RW.val (by rfl) ?_ ?_;rotate_left;(focus (intro w' hS;obtain⟨HB,⟨c0,c1,c2⟩,d0,d1,d2⟩:=hS;go_simp;rfl));simp only[Act.put,List.setIfInBounds_toArray,List.set_cons_zero,List.set_cons_succ])
      |(refine RW.off (by rfl) ?_;simp only[Act.put,List.setIfInBounds_toArray,List.set_cons_zero,List.set_cons_succ]))
     refine RW.done (fun w' hS=>?_)
     obtain⟨HB,⟨c0,c1,c2⟩,d0,d1,d2⟩:=hS
     go_wp2
     go_ret
     exact⟨rfl,HB⟩
    ·obtain rfl:r=false:=by
      rw[←HR.out];simp[sameFB];intro e
      have h1:=HX.out;rw[e,HY.out] at h1;exact hne (Option.some.inj h1).symm
     clear hne hall
     refine RW.start (fun w'=>Below w.heap.size w w'∧(w'.cell? (ad.add (k * 3))=some (.string x.s)∧w'.cell? ⟨(ad.add (k * 3)).block,(ad.add (k * 3)).off+(0+1),none⟩=some (.int .i64 x.k)∧w'.cell? ⟨(ad.add (k * 3)).block,(ad.add (k * 3)).off+(1+1),none⟩=some (.int .i64 x.l))∧(w'.cell? (bd.add (k * 3))=some (.string y.s)∧w'.cell? ⟨(bd.add (k * 3)).block,(bd.add (k * 3)).off+(0+1),none⟩=some (.int .i64 y.k)∧w'.cell? ⟨(bd.add (k * 3)).block,(bd.add (k * 3)).off+(1+1),none⟩=some (.int .i64 y.l))) (by kernel_rfl) (by kernel_rfl) ⟨HB.drew,⟨c0,c1,c2⟩,d0,d1,d2⟩ ?_
     clear HB c0 c1 c2 d0 d1 d2
     repeat (first
      |(refine' RW.val (by rfl) ?_ ?_;rotate_left;(focus (intro w' hS;obtain⟨HB,⟨c0,c1,c2⟩,d0,d1,d2⟩:=hS;go_simp;rfl));simp only[Act.put,List.setIfInBounds_toArray,List.set_cons_zero,List.set_cons_succ])
      |(refine RW.off (by rfl) ?_;simp only[Act.put,List.setIfInBounds_toArray,List.set_cons_zero,List.set_cons_succ]))
     refine RW.done (fun w' hS=>?_)
     obtain⟨HB,⟨c0,c1,c2⟩,d0,d1,d2⟩:=hS
     go_wp2
     go_ret
     exact⟨rfl,HB⟩
    ·have hall2:Hid (a.take (k+1)=b.take (k+1)):=Lib.hid (by rw[List.take_add_one,List.take_add_one,hall.out,HX.out,HY.out,he])
     clear he hall
     refine RW.start (fun w'=>Below w.heap.size w w'∧(w'.cell? (ad.add (k * 3))=some (.string x.s)∧w'.cell? ⟨(ad.add (k * 3)).block,(ad.add (k * 3)).off+(0+1),none⟩=some (.int .i64 x.k)∧w'.cell? ⟨(ad.add (k * 3)).block,(ad.add (k * 3)).off+(1+1),none⟩=some (.int .i64 x.l))∧(w'.cell? (bd.add (k * 3))=some (.string y.s)∧w'.cell? ⟨(bd.add (k * 3)).block,(bd.add (k * 3)).off+(0+1),none⟩=some (.int .i64 y.k)∧w'.cell? ⟨(bd.add (k * 3)).block,(bd.add (k * 3)).off+(1+1),none⟩=some (.int .i64 y.l))) (by kernel_rfl) (by kernel_rfl) ⟨HB.drew,⟨c0,c1,c2⟩,d0,d1,d2⟩ ?_
     clear HB c0 c1 c2 d0 d1 d2
     repeat (first
      |(refine' RW.val (by rfl) ?_ ?_;rotate_left;(focus (intro w' hS;obtain⟨HB,⟨c0,c1,c2⟩,d0,d1,d2⟩:=hS;go_simp;rfl));simp only[Act.put,List.setIfInBounds_toArray,List.set_cons_zero,List.set_cons_succ])
      |(refine RW.off (by rfl) ?_;simp only[Act.put,List.setIfInBounds_toArray,List.set_cons_zero,List.set_cons_succ]))
     refine RW.done (fun w' hS=>?_)
     obtain⟨HB,⟨c0,c1,c2⟩,d0,d1,d2⟩:=hS
     go_wp2
     go_roundw
     case rel=>exact⟨k+1,by omega,by go_num,HB,hall2⟩
     case measure=>simp[intOf];omega
   ·obtain rfl:k=a.length:=by omega
    obtain rfl:r=true:=by
     rw[←HR.out];have h:=hall.out
     rw[List.take_length,HL.out,List.take_length] at h
     simpa[sameFB] using h
    clear hAr hBr
    go_wp2
    go_ret
    exact⟨rfl,HB⟩
 ·have hz:((a.length:Int) != (b.length:Int))=true:=by simp;omega
  have hr:sameFB a b=false:=by simp[sameFB];intro e;exact hlen (by rw[e])
  rw[hr]
  clear hr hlen
  go_enter Tryz.func141,Tryz.ntmps141
  go_wp2
  go_ret
  exact⟨rfl,Below.refl _ _⟩
theorem SlEqual_m (A B:Option Addr) (c d m n:Nat) (a b:List Fd) (ha:a.length=m) (hb:b.length=n) (r:Bool) (hr:sameFB a b=r) (w:World) (hA:Rd w A (cellsF a)) (hB:Rd w B (cellsF b)) (hm:m≤9223372036854775807) (hn:n≤9223372036854775807):
 Calls Tryz.prog 141 #[.slice A m c,.slice B n d] w fun e w'=>e=.returned (.bool r)∧Below w.heap.size w w':=by
 subst ha hb hr;exact SlEqual_calls A B c d a b w hA hB hm hn
def MBox (w:World) (b:Nat) (m:Mv):Prop:=w.cell? ⟨b,0,none⟩=some (.int .i64 m.f)∧w.cell? ⟨b,1,none⟩=some (.int .i64 m.d.k)∧w.cell? ⟨b,2,none⟩=some (.int .u64 m.d.b)∧w.cell? ⟨b,3,none⟩=some (.string m.d.t)
theorem MBox.below {w w1:World} {b:Nat} {m:Mv} (h:MBox w b m) (hb:Below w.heap.size w w1):MBox w1 b m:=⟨cell_below (B:=0) hb h.1,cell_below (B:=0) hb h.2.1,cell_below (B:=0) hb h.2.2.1,cell_below (B:=0) hb h.2.2.2⟩
theorem ByteArray.toList_nil_beq (t:ByteArray):(t.toList == (⟨#[]⟩:ByteArray).toList)=(t.toList == []):=by
 rw[ByteArray.toList_eq (⟨#[]⟩:ByteArray)]
theorem cell_allocs {w:World} {a:Addr} {v:Value} (h:w.cell? a=some v):(∀o,(w.alloc o).cell? a=some v)∧∀o o',((w.alloc o).alloc o').cell? a=some v:=
 ⟨fun o=>cell_below (B:=0) (below_new o) h,fun o o'=>cell_below (B:=0) (below_new o') (cell_below (B:=0) (below_new o) h)⟩
theorem Right1_is (bp:Nat) (t:Tb) (Ao An Am:Option Addr) (co cn cm no nn nm:Nat) (hno:t.o.length=no) (hnn:t.n.length=nn) (hnm:t.m.length=nm) (l0:no≤9223372036854775807) (k:Nat) (x:Mv) (g:Fd) (hx:t.m[k]?=some x) (hg:t.n[k]?=some g) (b0:0≤x.d.b) (b1:x.d.b<18446744073709551616)
 (w:World) (O:TBox w bp (.slice Ao no co) (.slice An nn cn) (.slice Am nm cm)) (ao:Rd w Ao (cellsF t.o)) (an:Rd w An (cellsF t.n)) (am:Rd w Am (cellsM t.m)):
 Calls Tryz.prog 107 #[.int .i64 (k:Int),.pointer (some ⟨bp,0,none⟩)] w fun e w'=>e=.returned (.bool (okMv t.o g x))∧Below w.heap.size w w':=by
 obtain⟨r,hr⟩:∃r,okMv t.o g x=r:=⟨_,rfl⟩
 rw[hr]
 have hk1:k<nn:=by rw[←hnn];exact(List.getElem?_eq_some_iff.1 hg).1
 have hk2:k<nm:=by rw[←hnm];exact(List.getElem?_eq_some_iff.1 hx).1
 obtain⟨ad,ea,c0,c1,c2,c3⟩:=am.mv hx
 obtain⟨bd,eb,d0,d1,d2⟩:=an.fld hg
 subst ea eb
 obtain⟨O0,O1,O2⟩:=id O
 have HR:=Lib.hid hr
 have HNO:=Lib.hid hno
 have hi0:(0:Int)≤(k:Int):=by omega
 have hi1:(k:Int)<(nn:Int):=by omega
 have hi2:(k:Int)<(nm:Int):=by omega
 clear hr hno hnn hnm hx hg an am
 go_enter Tryz.func107,Tryz.ntmps107
 go_upto_region 1 with fail
 go_cut [4,5] (fun s4 s5 wx=>∃p q:Nat,s4=.pointer (some ⟨p,0,none⟩)∧s5=.pointer (some ⟨q,0,none⟩)∧MBox wx p x∧FBox wx q g.s g.k g.l∧Below w.heap.size w wx)
 case first=>
  obtain⟨x0,y0⟩:=cell_allocs c0
  obtain⟨x1,y1⟩:=cell_allocs c1
  obtain⟨x2,y2⟩:=cell_allocs c2
  obtain⟨x3,y3⟩:=cell_allocs c3
  obtain⟨x4,y4⟩:=cell_allocs d0
  obtain⟨x5,y5⟩:=cell_allocs d1
  obtain⟨x6,y6⟩:=cell_allocs d2
  obtain⟨x7,y7⟩:=cell_allocs O1
  obtain⟨x8,y8⟩:=cell_allocs O2
  go_region
  have HB:=Below.refl w.heap.size w
  all_goals (go_wp2_with fail;go_meet;refine⟨_,_,rfl,rfl,⟨?_,?_,?_,?_⟩,⟨?_,?_,?_⟩,?_⟩)
  all_goals first
   |(simp[World.cell?_alloc_new];done)
   |(have HB:=Below.refl w.heap.size w;(repeat (first|exact HB|refine Below.setCell ?_ (by dsimp only;omega) _|refine Below.alloc ?_ (by have hs_:=HB.size;first|(simp;done)|(simp;omega)|omega) _|apply Below.drew)))
 case rest=>
  obtain⟨p,q,rfl,rfl,M,F,HB⟩:=hcut
  replace O:=O.below HB
  replace ao:=ao.below HB
  clear c0 c1 c2 c3 d0 d1 d2 O0 O1 O2
  obtain⟨M0,M1,M2,M3⟩:=id M
  obtain⟨F0,F1,F2⟩:=id F
  obtain⟨O0,O1,O2⟩:=id O
  by_cases hf:x.f=-1
  ·have hfb:(x.f == -1)=true:=by simp[hf]
   have hok:r=(rightB x.d.k x.d.b x.d.t g.k g.l && (decide (g.k≠11) || decide (x.d.b=0))):=by rw[←HR.out,okMv,if_pos hf]
   obtain⟨r1,hr1⟩:∃y,rightB x.d.k x.d.b x.d.t g.k g.l=y:=⟨_,rfl⟩
   rw[hr1] at hok
   have HR1:=Lib.hid hr1
   clear hr1 hf
   cases r1
   ·obtain rfl:r=false:=hok
    go_wp2_with (go_at_call 95;refine(Right_is x.d.k x.d.b x.d.t g.s g.k g.l b0 b1 false HR1.out _).mono ?_;rintro e wM ⟨rfl,hb⟩;replace HB:=HB.trans (hb.mono HB.size);replace F:=F.below hb;obtain⟨F0,F1,F2⟩:=id F;clear hb)
    go_ret
    exact⟨rfl,HB⟩
   ·by_cases hk:g.k=11
    ·have hk1:(g.k != 11)=false:=by simp[hk]
     by_cases hb:x.d.b=0
     ·have hb1:(x.d.b == 0)=true:=by simp[hb]
      obtain rfl:r=true:=by rw[hok];simp[hb]
      clear hok hk hb
      go_wp2_with (go_at_call 95;refine(Right_is x.d.k x.d.b x.d.t g.s g.k g.l b0 b1 true HR1.out _).mono ?_;rintro e wM ⟨rfl,hb⟩;replace HB:=HB.trans (hb.mono HB.size);obtain⟨F0,F1,F2⟩:=F.below hb;obtain⟨M0,M1,M2,M3⟩:=M.below hb;clear hb)
      go_ret
      exact⟨rfl,HB⟩
     ·have hb1:(x.d.b == 0)=false:=by simp[hb]
      obtain rfl:r=false:=by rw[hok];simp[hb,hk]
      clear hok hk hb
      go_wp2_with (go_at_call 95;refine(Right_is x.d.k x.d.b x.d.t g.s g.k g.l b0 b1 true HR1.out _).mono ?_;rintro e wM ⟨rfl,hb⟩;replace HB:=HB.trans (hb.mono HB.size);obtain⟨F0,F1,F2⟩:=F.below hb;obtain⟨M0,M1,M2,M3⟩:=M.below hb;clear hb)
      go_ret
      exact⟨rfl,HB⟩
    ·have hk1:(g.k != 11)=true:=by simp[hk]
     obtain rfl:r=true:=by rw[hok];simp[hk]
     clear hok hk
     go_wp2_with (go_at_call 95;refine(Right_is x.d.k x.d.b x.d.t g.s g.k g.l b0 b1 true HR1.out _).mono ?_;rintro e wM ⟨rfl,hb⟩;replace HB:=HB.trans (hb.mono HB.size);obtain⟨F0,F1,F2⟩:=F.below hb;obtain⟨M0,M1,M2,M3⟩:=M.below hb;clear hb)
     go_ret
     exact⟨rfl,HB⟩
  ·have hfb:(x.f == -1)=false:=by simp[hf]
   have hok:r=(decide (0≤x.f) && (match t.o[x.f.toNat]? with|none=>false|some f=>decide (x.d=Vl.z) && castsB f.k f.l g.k g.l)):=by rw[←HR.out,okMv,if_neg hf] <;> rfl
   clear hf
   go_upto_region 4 with fail
   by_cases h0:0≤x.f
   ·have h01:decide ((0:Int)≤x.f)=true:=by simpa using h0
    by_cases h1:x.f<(no:Int)
    ·obtain⟨f,hf⟩:∃f,t.o[x.f.toNat]?=some f:=⟨_,List.getElem?_eq_getElem (by rw[HNO.out];omega)⟩
     have h11:decide (x.f<(no:Int))=true:=by simpa using h1
     rw[hf] at hok
     have HF:=Lib.hid hf
     clear hf
     by_cases hz:x.d=Vl.z
     ·have hr:castsB f.k f.l g.k g.l=r:=by rw[hok];simp[h0,hz]
      have HC:=Lib.hid hr
      obtain⟨od,eo,f0,f1,f2⟩:=ao.fld HF.out
      subst eo
      have z1:x.d.k=0:=by rw[hz];rfl
      have z2:x.d.b=0:=by rw[hz];rfl
      have z3:x.d.t=⟨#[]⟩:=by rw[hz];rfl
      clear hok hr hz
      clear f0 f1 f2 M0 M1 M2 M3 F0 F1 F2 O0 O1 O2
      refine RW.start (fun w'=>Below w.heap.size w w'∧MBox w' p x∧FBox w' q g.s g.k g.l∧TBox w' bp (.slice (some od) no co) (.slice (some bd) nn cn) (.slice (some ad) nm cm)∧Rd w' (some od) (cellsF t.o)) (by kernel_rfl) (by kernel_rfl) ⟨HB.drew,M,F,O,ao⟩ ?_
      clear HB M F O ao
      repeat (first
       |(refine' RW.val (by rfl) ?_ ?_;rotate_left;(focus (intro w' hS;obtain⟨HB,M,F,O,ao⟩:=hS;obtain⟨M0,M1,M2,M3⟩:=id M;obtain⟨F0,F1,F2⟩:=id F;obtain⟨O0,O1,O2⟩:=id O;rw[z1] at M1;rw[z2] at M2;rw[z3] at M3;obtain⟨_,eo,f0,f1,f2⟩:=ao.fld HF.out;cases eo;go_simp;rfl));simp only[Act.put,List.setIfInBounds_toArray,List.set_cons_zero,List.set_cons_succ])
       |(refine RW.off (by rfl) ?_;simp only[Act.put,List.setIfInBounds_toArray,List.set_cons_zero,List.set_cons_succ])
       |(refine' RW.call (by rfl) ?_ ?_ ?_
         rotate_left 3
         (focus (intro w' hS;obtain⟨HB,M,F,O,ao⟩:=hS;obtain⟨M0,M1,M2,M3⟩:=id M;obtain⟨F0,F1,F2⟩:=id F;obtain⟨O0,O1,O2⟩:=id O;rw[z1] at M1;rw[z2] at M2;rw[z3] at M3;obtain⟨_,eo,f0,f1,f2⟩:=ao.fld HF.out;cases eo;go_simp;exact⟨rfl,rfl⟩))
         (focus
           intro w' hS
           obtain⟨HB,M,F,O,ao⟩:=hS;obtain⟨M0,M1,M2,M3⟩:=id M;obtain⟨F0,F1,F2⟩:=id F;obtain⟨O0,O1,O2⟩:=id O;rw[z1] at M1;rw[z2] at M2;rw[z3] at M3;obtain⟨_,eo,f0,f1,f2⟩:=ao.fld HF.out;cases eo
           first
            |(refine(Casts_is f.s g.s f.k f.l g.k g.l r HC.out _).mono ?_;rintro e w1 ⟨rfl,hb⟩;exact⟨rfl,⟨(below_seq HB hb),(M.below hb),(F.below hb),(O.below hb),(ao.below hb)⟩⟩))
         simp only[Act.put,List.setIfInBounds_toArray,List.set_cons_zero,List.set_cons_succ]))
      refine RW.done (fun w' hS=>?_)
      obtain⟨HB,M,F,O,ao⟩:=hS;obtain⟨M0,M1,M2,M3⟩:=id M;obtain⟨F0,F1,F2⟩:=id F;obtain⟨O0,O1,O2⟩:=id O;rw[z1] at M1;rw[z2] at M2;rw[z3] at M3;obtain⟨_,eo,f0,f1,f2⟩:=ao.fld HF.out;cases eo
      go_wp2
      go_ret
      exact⟨rfl,HB⟩
     ·obtain rfl:r=false:=by rw[hok];simp[hz]
      have hw:(x.d.k == 0)=false∨((x.d.k == 0)=true∧(x.d.b == 0)=false)∨((x.d.k == 0)=true∧(x.d.b == 0)=true∧(x.d.t.toList == [])=false):=by
       rw[←ByteArray.toList_nil_beq x.d.t]
       obtain⟨xf,⟨dk,db,dt⟩⟩:=x
       by_cases e1:dk=0
       ·by_cases e2:db=0
        ·refine .inr (.inr ⟨by simp[e1],by simp[e2],?_⟩)
         rw[name_beq]
         exact decide_eq_false fun e3=>hz (by have e3:dt=_:=e3;show(⟨dk,db,dt⟩:Vl)=Vl.z;rw[e1,e2,e3];rfl)
        ·exact .inr (.inl ⟨by simp[e1],by simp[e2]⟩)
       ·exact .inl (by simp[e1])
      clear hok hz
      rcases hw with z1|⟨z1,z2⟩|⟨z1,z2,z3⟩
      ·skip
       refine RW.start (fun w'=>Below w.heap.size w w'∧MBox w' p x∧FBox w' q g.s g.k g.l∧TBox w' bp (.slice Ao no co) (.slice (some bd) nn cn) (.slice (some ad) nm cm)) (by kernel_rfl) (by kernel_rfl) ⟨HB.drew,M,F,O⟩ ?_
       clear HB M F O
       repeat (first
        |(refine' RW.val (by rfl) ?_ ?_;rotate_left;(focus (intro w' hS;obtain⟨HB,M,F,O⟩:=hS;obtain⟨M0,M1,M2,M3⟩:=id M;obtain⟨F0,F1,F2⟩:=id F;obtain⟨O0,O1,O2⟩:=id O;go_simp;rfl));simp only[Act.put,List.setIfInBounds_toArray,List.set_cons_zero,List.set_cons_succ])
        |(refine RW.off (by rfl) ?_;simp only[Act.put,List.setIfInBounds_toArray,List.set_cons_zero,List.set_cons_succ]))
       refine RW.done (fun w' hS=>?_)
       obtain⟨HB,M,F,O⟩:=hS;obtain⟨M0,M1,M2,M3⟩:=id M;obtain⟨F0,F1,F2⟩:=id F;obtain⟨O0,O1,O2⟩:=id O
       go_wp2
       go_ret
       exact⟨rfl,HB⟩
      ·skip
       refine RW.start (fun w'=>Below w.heap.size w w'∧MBox w' p x∧FBox w' q g.s g.k g.l∧TBox w' bp (.slice Ao no co) (.slice (some bd) nn cn) (.slice (some ad) nm cm)) (by kernel_rfl) (by kernel_rfl) ⟨HB.drew,M,F,O⟩ ?_
       clear HB M F O
       repeat (first
        |(refine' RW.val (by rfl) ?_ ?_;rotate_left;(focus (intro w' hS;obtain⟨HB,M,F,O⟩:=hS;obtain⟨M0,M1,M2,M3⟩:=id M;obtain⟨F0,F1,F2⟩:=id F;obtain⟨O0,O1,O2⟩:=id O;go_simp;rfl));simp only[Act.put,List.setIfInBounds_toArray,List.set_cons_zero,List.set_cons_succ])
        |(refine RW.off (by rfl) ?_;simp only[Act.put,List.setIfInBounds_toArray,List.set_cons_zero,List.set_cons_succ]))
       refine RW.done (fun w' hS=>?_)
       obtain⟨HB,M,F,O⟩:=hS;obtain⟨M0,M1,M2,M3⟩:=id M;obtain⟨F0,F1,F2⟩:=id F;obtain⟨O0,O1,O2⟩:=id O
       go_wp2
       go_ret
       exact⟨rfl,HB⟩
      ·skip
       refine RW.start (fun w'=>Below w.heap.size w w'∧MBox w' p x∧FBox w' q g.s g.k g.l∧TBox w' bp (.slice Ao no co) (.slice (some bd) nn cn) (.slice (some ad) nm cm)) (by kernel_rfl) (by kernel_rfl) ⟨HB.drew,M,F,O⟩ ?_
       clear HB M F O
       repeat (first
        |(refine' RW.val (by rfl) ?_ ?_;rotate_left;(focus (intro w' hS;obtain⟨HB,M,F,O⟩:=hS;obtain⟨M0,M1,M2,M3⟩:=id M;obtain⟨F0,F1,F2⟩:=id F;obtain⟨O0,O1,O2⟩:=id O;go_simp;rfl));simp only[Act.put,List.setIfInBounds_toArray,List.set_cons_zero,List.set_cons_succ])
        |(refine RW.off (by rfl) ?_;simp only[Act.put,List.setIfInBounds_toArray,List.set_cons_zero,List.set_cons_succ]))
       refine RW.done (fun w' hS=>?_)
       obtain⟨HB,M,F,O⟩:=hS;obtain⟨M0,M1,M2,M3⟩:=id M;obtain⟨F0,F1,F2⟩:=id F;obtain⟨O0,O1,O2⟩:=id O
       go_wp2
       go_ret
       exact⟨rfl,HB⟩
    ·obtain rfl:r=false:=by
      rw[hok,List.getElem?_eq_none (by rw[HNO.out];omega)];simp
     have h11:decide (x.f<(no:Int))=false:=by simpa using h1
     clear hok h1
     refine RW.start (fun w'=>Below w.heap.size w w'∧MBox w' p x∧FBox w' q g.s g.k g.l∧TBox w' bp (.slice Ao no co) (.slice (some bd) nn cn) (.slice (some ad) nm cm)) (by kernel_rfl) (by kernel_rfl) ⟨HB.drew,M,F,O⟩ ?_
     clear HB M F O
     repeat (first
      |(refine' RW.val (by rfl) ?_ ?_;rotate_left;(focus (intro w' hS;obtain⟨HB,M,F,O⟩:=hS;obtain⟨M0,M1,M2,M3⟩:=id M;obtain⟨F0,F1,F2⟩:=id F;obtain⟨O0,O1,O2⟩:=id O;go_simp;rfl));simp only[Act.put,List.setIfInBounds_toArray,List.set_cons_zero,List.set_cons_succ])
      |(refine RW.off (by rfl) ?_;simp only[Act.put,List.setIfInBounds_toArray,List.set_cons_zero,List.set_cons_succ]))
     refine RW.done (fun w' hS=>?_)
     obtain⟨HB,M,F,O⟩:=hS;obtain⟨M0,M1,M2,M3⟩:=id M;obtain⟨F0,F1,F2⟩:=id F;obtain⟨O0,O1,O2⟩:=id O
     go_wp2
     go_ret
     exact⟨rfl,HB⟩
   ·obtain rfl:r=false:=by rw[hok];simp[h0]
    have h01:decide ((0:Int)≤x.f)=false:=by simpa using h0
    clear hok h0
    refine RW.start (fun w'=>Below w.heap.size w w'∧MBox w' p x∧FBox w' q g.s g.k g.l∧TBox w' bp (.slice Ao no co) (.slice (some bd) nn cn) (.slice (some ad) nm cm)) (by kernel_rfl) (by kernel_rfl) ⟨HB.drew,M,F,O⟩ ?_
    clear HB M F O
    repeat (first
     |(refine' RW.val (by rfl) ?_ ?_;rotate_left;(focus (intro w' hS;obtain⟨HB,M,F,O⟩:=hS;obtain⟨M0,M1,M2,M3⟩:=id M;obtain⟨F0,F1,F2⟩:=id F;obtain⟨O0,O1,O2⟩:=id O;go_simp;rfl));simp only[Act.put,List.setIfInBounds_toArray,List.set_cons_zero,List.set_cons_succ])
     |(refine RW.off (by rfl) ?_;simp only[Act.put,List.setIfInBounds_toArray,List.set_cons_zero,List.set_cons_succ]))
    refine RW.done (fun w' hS=>?_)
    obtain⟨HB,M,F,O⟩:=hS;obtain⟨M0,M1,M2,M3⟩:=id M;obtain⟨F0,F1,F2⟩:=id F;obtain⟨O0,O1,O2⟩:=id O
    go_wp2
    go_ret
    exact⟨rfl,HB⟩
end
end Go.Proofs.YteembinfgbapgaaGreat
