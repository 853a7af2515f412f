/- Merged out of: Gm Gn Go Gp Gq Gr. -/
import Derived.Test.YteembinfgbapgaaGreatC00
import Derived.Test.YteembinfgbapgaaGreatC08
import Derived.Deep.RegionHeld3
import Derived.Deep.AppendLies
import Derived.Lib.AppendStr
set_option linter.unusedSimpArgs false
set_option linter.unusedVariables false
set_option maxRecDepth 100000
set_option maxHeartbeats 8000000
namespace Go.Proofs.YteembinfgbapgaaGreat
section
open Go.RowKit
def rowF (f:Fd):List UInt8:=UInt8.ofNat f.s.size :: (bl f.s++[UInt8.ofNat f.k.toNat,UInt8.ofNat f.l.toNat])
def encFL (fs:List Fd):List UInt8:=UInt8.ofNat fs.length :: fs.flatMap rowF
theorem rowF_length (f:Fd):(rowF f).length=f.s.size+3:=by simp[rowF,bl_length]
theorem flat_length (fs:List Fd) (h:∀f∈fs,f.s.size≤15):(fs.flatMap rowF).length≤18 * fs.length:=by
 induction fs with
 |nil=>simp
 |cons f r ih=>
  have h1:=h f (List.mem_cons_self ..)
  have h2:=ih fun g hg=>h g (List.mem_cons_of_mem _ hg)
  rw[List.flatMap_cons,Qz,rowF_length,Xx];omega
theorem name_size {s:ByteArray} (h:nameB s=true):1≤s.size∧s.size≤15:=by
 simp only[nameB,Qy,decide_eq_true_eq] at h
 exact h.2
theorem rightF_name {fs:List Fd} (h:rightF fs=true) {f:Fd} (hf:f∈fs):nameB f.s=true:=by
 simp only[rightF,Qy,decide_eq_true_eq] at h
 obtain⟨i,hi,rfl⟩:=List.getElem_of_mem hf
 have:=h.1 i hi
 simp only[okF,Qy] at this
 exact this.1.1
theorem may_small {k l:Int} (h:mayB k l=true):0≤k∧k≤12∧0≤l∧l≤64:=by
 by_cases hk:k=12
 ·subst hk
  have:=btw_iff.1 (mayB_12▸h)
  omega
 ·obtain⟨h1,h2⟩:=mayB_of h hk
  have:=(size_pos k).1 h2
  omega
theorem step_append_str {P:Program} {w:World} {ops:Array Oper} {o:Oper} {a:Act} {K:Act→World→Prop} {Q:Exit→Act→World→Prop} {E:Prop} (hgd:o.guard=none) (sl x:Operand) (t u:TypeId)
 (ho:o.op=.call { callee:=.builtin .append,args:=#[sl,x],argTypes:=#[t,u] })
 (base:Nat) (e:TypeId) (i:TypeInfo) (ht:P.underlying t=some (.slice e)) (hu:P.underlying u=some .string) (hi:P.info? e=some i) (hz:i.zero=some (.int .u8 0))
 (hsize:i.size=1) (hby:i.bytes=1)
 (v:Value) (n:Nat) (xs:List Value) (hs:a.eval sl=v) (hown:w.ownsRow base e 1 v n xs) (s:ByteArray) (hx:a.eval x=.string s)
 (h63:n+s.size≤maxLen) (hbytes:n+s.size≤140737488355328) (hbase:base≤w.heap.size)
 (h:∀v' w',w'.ownsRow base e 1 v' (n+s.size) (xs++Lib.strCells s)→w.grownBy w' v.ownBlock→K (a.put o.dst v') w'):
 if Region.wanted o (yielded ops a.tmps)=true then Oper.wp P o a w K Q else E:=by
 have hw:Region.wanted o (yielded ops a.tmps)=true:=by simp[Region.wanted,hgd]
 rw[if_pos hw]
 obtain⟨v',w',hr,h2,h3,h4⟩:=Lib.run_append_own_string (P:=P) w base t u o.type e i ht hu hi hz hsize hby v n xs hown s h63 hbytes hbase
 unfold Oper.wp execOp
 simp only[ho,resolve,invoke,builtin,Sem.run_bind,Sem.run_pure,Result.andThen_ok,List.map_toArray,List.map_cons,List.map_nil,hs,hx,hr]
 exact h v' w' h2 h3
theorem FEncode_no (A:Option Addr) (c:Nat) (fs:List Fd) (hr:rightF fs=false) (w:World) (hA:Rd w A (cellsF fs)) (hl:fs.length≤9223372036854775807):
 Calls Tryz.prog 60 #[.slice A fs.length c] w fun e w'=>e=.returned (.tuple #[.slice none 0 0,.int .i64 60])∧Below w.heap.size w w':=by
 have HR:=J0 hr
 clear hr
 go_enter Tryz.func60,Tryz.ntmps60
 go_wp2_with (go_at_call 62;refine(FRight_is _ _ _ _ HR.out _ hA hl).mono ?_;rintro e w1 ⟨rfl,hb1⟩)
 go_ret2
 exact⟨rfl,hb1⟩
def partF (fs:List Fd) (k:Nat):List UInt8:=UInt8.ofNat fs.length :: (fs.take k).flatMap rowF
theorem partF_succ {fs:List Fd} {k:Nat} {f:Fd} (hf:fs[k]?=some f):partF fs (k+1)=partF fs k++rowF f:=by
 unfold partF
 rw[Vq,hf]
 simp
theorem own_lt {w:World} {base:Nat} {e:TypeId} {size n:Nat} {v:Value} {xs:List Value} (h:w.ownsRow base e size v n xs) (k:Nat) (hk:v.ownBlock=some k):k<w.heap.size:=by
 rcases h.2 with ⟨rfl,_⟩|⟨g,cap,cur,rfl,hb,hg,_⟩
 ·simp[Value.ownBlock] at hk
 ·have:g=k:=by simpa[Value.ownBlock] using hk
  subst this
  exact(Qk.1 hg).1
theorem own_eq {w:World} {base:Nat} {e:TypeId} {size n m:Nat} {v:Value} {xs ys:List Value} (h:w.ownsRow base e size v n xs) (hn:n=m) (hx:xs=ys):w.ownsRow base e size v m ys:=by subst hn hx;exact h
theorem ne_of_at {b g n:Nat} {o:Option Nat} (h:some b≠o) (hat:o=some g∨g=n+1) (hb:b<n):some b≠some g:=fun e=>by
 cases e
 rcases hat with h1|h1
 ·exact h h1.symm
 ·omega
theorem news2 (w:World) (u v:Value) (T:TypeId):∀j x,[u,v][j]?=some x→(w.alloc (.cells #[u,v] T)).cell? ((⟨w.heap.size,0,none⟩:Addr).add j)=some x:=by
 intro j x hj
 match j with
 |0=>simp at hj;subst hj;exact cell_new w _ T 0 u rfl
 |1=>simp at hj;subst hj;exact cell_new w _ T 1 v rfl
 |j+2=>simp at hj
theorem FEncode_yes (A:Option Addr) (c:Nat) (fs:List Fd) (hr:rightF fs=true) (w:World) (hA:Rd w A (cellsF fs)) (hl:fs.length≤9223372036854775807):
 Calls Tryz.prog 60 #[.slice A fs.length c] w fun e w'=>∃v,e=.returned (.tuple #[v,.int .i64 0])∧w'.ownsRow w.heap.size 5 1 v (encFL fs).length (bytesV (encFL fs))∧Below w.heap.size w w':=by
 obtain⟨i0,hi,hz0,hz1,hz2⟩:=info_parts info5
 obtain⟨hmay,h16⟩:=rightF_may hr
 have hnm:=fun f hf=>name_size (rightF_name hr (f:=f) hf)
 have HR:=J0 hr
 clear hr
 go_enter Tryz.func60,Tryz.ntmps60
 go_wp2_with (go_at_call 62;refine(FRight_is _ _ _ _ HR.out _ hA hl).mono ?_;rintro e w1 ⟨rfl,hb1⟩)
 have e0:bytesV (partF fs 0)=[.int .u8 (fs.length:Int)]:=by simp[partF,bytesV];omega
 have hown0:(w1.alloc (.cells #[.int .u8 (fs.length:Int)] 5)).ownsRow w.heap.size 5 1 (.slice (some ⟨w1.heap.size,0,none⟩) 1 1) (partF fs 0).length (bytesV (partF fs 0)):=by
  rw[e0]
  exact⟨rfl,.inr ⟨_,1,#[.int .u8 (fs.length:Int)],rfl,hb1.size,World.alloc_heap_new _ _,J9 _,by decide,rfl,rfl⟩⟩
 have HB0:=hb1.alloc hb1.size (.cells #[.int .u8 (fs.length:Int)] 5)
 clear e0 HR
 go_loopw [4,6,16] (fun v _ i wr=>∃k:Nat,k≤fs.length∧i=.int .i64 k∧wr.ownsRow w.heap.size 5 1 v (partF fs k).length (bytesV (partF fs k))∧Below w.heap.size w wr) (fun _ _ i _=>fs.length - (intOf i).toNat)
 case atStart=>exact⟨0,by omega,rfl,hown0,HB0⟩
 case round=>
  obtain⟨k,hk,rfl,hown,HB⟩:=hrel
  clear hown0 HB0 hb1
  have hAr:=hA.below HB
  by_cases hlt:k<fs.length
  ·obtain⟨f,hf⟩:∃f,fs[k]?=some f:=⟨_,J4 hlt⟩
   obtain⟨ad,rfl,c0,c1,c2⟩:=hAr.fld hf
   have hfm:=J7 hf
   obtain⟨n1,n2⟩:=hnm f hfm
   obtain⟨m1,m2,m3,m4⟩:=may_small (hmay f hfm)
   have hsucc:=partF_succ hf
   have hpl:(partF fs k).length≤400:=by
    have:=flat_length (fs.take k) (fun g hg=>(hnm g (List.mem_of_mem_take hg)).2)
    rw[Qv] at this
    simp only[partF,Xx];omega
   have HS:=J0 hsucc
   obtain⟨F0a,F0b,F0c⟩:=FBox.new wr f.s f.k f.l
   have hzr:=HB.size
   have hlt0:=own_lt hown
   have hownW:=hown.alloc (.cells #[.string f.s,.int .i64 f.k,.int .i64 f.l] 68)
   have HBW:=HB.alloc hzr (.cells #[.string f.s,.int .i64 f.k,.int .i64 f.l] 68)
   clear hsucc hf hA hAr hown HB
   go_wp2
   obtain⟨Bf,hBf⟩:∃b,wr.heap.size=b:=⟨_,rfl⟩
   have hWs:Bf<(wr.alloc (.cells #[.string f.s,.int .i64 f.k,.int .i64 f.l] 68)).heap.size:=by rw[←hBf];simp
   rw[hBf] at F0a F0b F0c hzr ⊢
   have hne1:some Bf≠u4.ownBlock:=fun e=>by have:=hlt0 _ e.symm;omega
   obtain⟨W,hW⟩:∃W,wr.alloc (.cells #[.string f.s,.int .i64 f.k,.int .i64 f.l] 68)=W:=⟨_,rfl⟩
   rw[hW] at F0a F0b F0c hWs hownW HBW ⊢
   clear hW hBf hlt0
   have hsW:w.heap.size≤W.heap.size:=by omega
   have hn1:∀j u,[Value.int .u8 (f.s.size:Int)][j]?=some u→(W.alloc (.cells #[.int .u8 (f.s.size:Int)] 5)).drew.cell? ((⟨W.heap.size,0,none⟩:Addr).add j)=some u:=news1 W (.int .u8 (f.s.size:Int)) 5
   have hwr:IntKind.u8.wrap (f.s.size:Int)=(f.s.size:Int):=IntWalk.u8_in _ (by omega)
   have tok1:=True.intro
   go_region_held3 (fun w'=>w'.cell? ⟨Bf,0,none⟩=some (.string f.s)∧w'.cell? ⟨Bf,1,none⟩=some (.int .i64 f.k)∧w'.cell? ⟨Bf,2,none⟩=some (.int .i64 f.l))
    (first|go_keep|(go_split_ands;refine⟨?_,?_,?_⟩ <;> (first|(rw[hgrow2.cell_far _ (by simp;omega) hne2];assumption)|(rw[hgrow1.cell_far _ (by simp;omega) hne1];assumption))))
    (first
      |(have _t:=tok1;refine step_append_lies _ (by rfl) _ _ _ (by rfl) w.heap.size 5 i0 (.int .u8 0) 1 1 Tryz.underlying44 hi hz0 hz1 hz2 rfl (by omega) u4 (partF fs k).length (bytesV (partF fs k)) (by rfl) ((hownW.alloc _).drew) ⟨W.heap.size,0,none⟩ 1 1 [.int .u8 (f.s.size:Int)] (by rfl) (by rfl) hn1 (by simp[Value.oneCell']) (by omega) (by unfold maxLen;omega) (by omega) (by simp;omega) (W.heap.size+1) (by simp) ?_;intro g cap w2 hown2 hgrow1 hat hlt2;clear tok1;have tok2:=True.intro;have hne2:=ne_of_at hne1 hat hWs;have hs2:=hgrow1.size;simp at hs2;have hs3:w.heap.size≤w2.heap.size:=Q7 hsW (Nat.le_of_succ_le hs2))
      |(have _t:=tok2;refine step_append_str (by rfl) _ _ _ _ (by rfl) w.heap.size 5 i0 Tryz.underlying44 Tryz.underlying9 hi hz0 hz1 hz2 (.slice (some ⟨g,0,none⟩) ((partF fs k).length+1) cap) ((partF fs k).length+1) _ (by rfl) hown2 f.s (by rfl) (by unfold maxLen;omega) (by omega) hs3 ?_;intro v3 w3 hown3 hgrow2;clear tok2))
   obtain⟨d0,d1,d2⟩:w3.cell? ⟨Bf,0,none⟩=some (.string f.s)∧w3.cell? ⟨Bf,1,none⟩=some (.int .i64 f.k)∧w3.cell? ⟨Bf,2,none⟩=some (.int .i64 f.l):=by assumption
   have HB2:Below w.heap.size w w2:=Below.grown (w:=(W.alloc (.cells #[.int .u8 (f.s.size:Int)] 5)).drew) (HBW.alloc hsW _).drew hgrow1 (Q7 hsW (by simp)) (fun q hq=>own_base hownW q hq)
   have HB3:Below w.heap.size w w3:=HB2.grown hgrow2 hs3 (fun q hq=>own_base hown2 q hq)
   have hs4:=HB3.size
   have hown4:w3.ownsRow w.heap.size 5 1 v3 ((partF fs k).length+1+f.s.size) (bytesV (partF fs k++(UInt8.ofNat f.s.size :: bl f.s))):=by
    refine own_eq hown3 rfl ?_
    have e:UInt8.ofNat f.s.size :: bl f.s=[UInt8.ofNat f.s.size]++bl f.s:=rfl
    rw[e,bytesV_append,bytesV_append,Xj]
    have e2:bytesV [UInt8.ofNat f.s.size]=[Value.int .u8 (f.s.size:Int)]:=by simp[bytesV];omega
    rw[e2];rfl
   clear hwr hown3 hgrow2 hgrow1 hown2 hownW HBW F0a F0b F0c hne1 hne2 hs2 hs3 hn1 hat hlt2 HB2 hWs
   go_wp2_with (at_builtin;refine wpList_append_own _ rfl _ _ 44 rfl w.heap.size 5 i0 (.int .u8 0) 1 1 Tryz.underlying44 hi hz0 hz1 hz2 rfl (by decide) _ _ _ rfl (hown4.alloc _) ⟨w3.heap.size,0,none⟩ 2 2 [.int .u8 f.k,.int .u8 f.l] rfl rfl ?c1 ?c2 ?c3 ?c4 ?c5 ?_)
   case c1=>exact news2 _ _ _ _
   case c2=>intro u hu;simp at hu;rcases hu with rfl|rfl <;> rfl
   case c3=>simp only[maxLen];omega
   case c4=>omega
   case c5=>simp;omega
   intro v5 w5 hown5 hgrow5 _
   have HB5:=(HB3.alloc hs4 (.cells #[.int .u8 f.k,.int .u8 f.l] 5)).grown hgrow5 (by simp;omega) (fun q hq=>own_base hown4 q hq)
   have hown6:w5.ownsRow w.heap.size 5 1 v5 (partF fs (k+1)).length (bytesV (partF fs (k+1))):=by
    refine own_eq hown5 ?_ ?_
    ·rw[HS.out,Qz,rowF_length];omega
    ·rw[HS.out,rowF,←List.cons_append,←Xj,bytesV_append (_++ _)]
     congr 1
     simp[bytesV];omega
   clear hown5 hgrow5 hown4 HB3
   go_wp2
   go_roundw
   case rel=>exact⟨k+1,by omega,by go_num,hown6,HB5⟩
   case measure=>simp[intOf];omega
  ·obtain rfl:k=fs.length:=by omega
   have e:partF fs fs.length=encFL fs:=by rw[partF,List.take_length];rfl
   rw[e] at hown
   clear hA hAr e
   go_wp2
   go_ret2
   exact⟨_,rfl,hown,HB⟩
def wrL (fs:List Fd):List UInt8:=if rightF fs=true then encFL fs else[]
def wrE (fs:List Fd):Int:=if rightF fs=true then 0 else 60
theorem FEncode_calls (A:Option Addr) (c:Nat) (fs:List Fd) (w:World) (hA:Rd w A (cellsF fs)) (hl:fs.length≤9223372036854775807):
 Calls Tryz.prog 60 #[.slice A fs.length c] w fun e w'=>∃v,e=.returned (.tuple #[v,.int .i64 (wrE fs)])∧OutB w' v (wrL fs)∧Below w.heap.size w w':=by
 cases hr:rightF fs
 ·have e1:wrL fs=[]:=by simp[wrL,hr]
  have e2:wrE fs=60:=by simp[wrE,hr]
  rw[e1,e2]
  refine(FEncode_no A c fs hr w hA hl).mono ?_
  rintro e w' ⟨rfl,hb⟩
  exact⟨_,rfl,⟨none,0,rfl,J9 _,Rd.nil _ _⟩,hb⟩
 ·have e1:wrL fs=encFL fs:=by simp[wrL,hr]
  have e2:wrE fs=0:=by simp[wrE,hr]
  rw[e1,e2]
  refine(FEncode_yes A c fs hr w hA hl).mono ?_
  rintro e w' ⟨v,rfl,ho,hb⟩
  obtain⟨B,c',rfl,h1,_,h2⟩:=own_rd ho
  exact⟨_,rfl,⟨B,c',rfl,h1,h2⟩,hb⟩
def stepF:List UInt8→Option (Fd×List UInt8)
 |[]=>none
 |n :: q=>if n.toNat+2≤q.length then some (⟨strL (q.take n.toNat),(q.getD n.toNat 0).toNat,(q.getD (n.toNat+1) 0).toNat⟩,q.drop (n.toNat+2)) else none
def rdF:List UInt8→Nat→Option (List Fd×List UInt8)
 |r,0=>some ([],r)
 |r,k+1=>match stepF r with
  |none=>none
  |some (f,r')=>(rdF r' k).map fun x=>(f :: x.1,x.2)
theorem infoFd:(Tryz.prog.info? 68).map (fun i=>(i.zero,i.size,i.bytes))=some (some (.agg #[.string ⟨#[]⟩,.int .i64 0,.int .i64 0]),3,32):=by kernel_rfl
theorem cellsF_append (a b:List Fd):cellsF (a++b)=cellsF a++cellsF b:=by simp[cellsF]
theorem conv_at {w:World} {A:Option Addr} {l:List UInt8} (h:Rd w A (bytesV l)) (n c:Nat) (hn:l.length=n):(convert 44 9 (.slice A n c)).run Tryz.prog w=.ok (.string (strL l)) w:=by subst hn;exact conv_str h c
theorem news3 (w:World) (u v x:Value) (T:TypeId):∀j y,[u,v,x][j]?=some y→(w.alloc (.cells #[u,v,x] T)).cell? ((⟨w.heap.size,0,none⟩:Addr).add j)=some y:=by
 intro j y hj
 match j with
 |0=>simp at hj;subst hj;exact cell_new w _ T 0 u rfl
 |1=>simp at hj;subst hj;exact cell_new w _ T 1 v rfl
 |2=>simp at hj;subst hj;exact cell_new w _ T 2 x rfl
 |j+3=>simp at hj
theorem upN_mod (a n:Nat) (hn:0<n):upN a n % n=0:=by unfold upN;exact Nat.mul_mod_left _ _
theorem upN_min {a n x:Nat} (hn:0<n) (h1:a≤x) (h2:x % n=0):upN a n≤x:=by
 unfold upN
 have e:x=x / n * n:=by have:=Nat.div_add_mod x n;rw[h2,Nat.mul_comm] at this;omega
 have:(a+n - 1) / n<x / n+1:=by
  rw[Nat.div_lt_iff_lt_mul hn,Nat.add_mul];omega
 calc (a+n - 1) / n * n≤x / n * n:=Nat.mul_le_mul_right n (by omega)
  _=x:=e.symm
theorem rFRight_is (A:Option Addr) (c:Nat) (fs:List Fd) (r:Bool) (h:rightF fs=r) (w:World) (hA:Rd w A (cellsF fs)) (hl:fs.length≤9223372036854775807) (hs:∀f∈fs,f.s.size≤9223372036854775807):
 Calls Tryz.prog 77 #[.slice A fs.length c] w fun e w'=>e=.returned (.bool r)∧Below w.heap.size w w':=h▸rFRight_calls A c fs w hA hl hs
theorem rLayout_no (A:Option Addr) (c:Nat) (fs:List Fd) (hr:rightF fs=false) (w:World) (hA:Rd w A (cellsF fs)) (hl:fs.length≤9223372036854775807) (hs:∀f∈fs,f.s.size≤9223372036854775807):
 Calls Tryz.prog 76 #[.slice A fs.length c] w fun e w'=>e=.returned (.tuple #[.slice none 0 0,.int .i64 0])∧Below w.heap.size w w':=by
 have HR:=J0 hr
 clear hr
 go_enter Tryz.func76,Tryz.ntmps76
 go_wp2_with (go_at_call 77;refine(rFRight_is _ _ _ _ HR.out _ hA hl hs).mono ?_;rintro e w1 ⟨rfl,hb1⟩)
 go_ret2
 exact⟨rfl,hb1⟩
theorem rLayout_yes (A:Option Addr) (c:Nat) (fs:List Fd) (hr:rightF fs=true) (w:World) (hA:Rd w A (cellsF fs)) (hl:fs.length≤9223372036854775807) (hs:∀f∈fs,f.s.size≤9223372036854775807):
 Calls Tryz.prog 76 #[.slice A fs.length c] w fun e w'=>∃v,e=.returned (.tuple #[v,.int .i64 (upN (endF 0 fs) 8:Nat)])∧w'.ownsRow w.heap.size 3 1 v fs.length (intsV ((seqF 0 fs).map Prod.fst))∧Below w.heap.size w w':=by
 obtain⟨i0,hi,hz0,hz1,hz2⟩:=info_parts infoInt
 obtain⟨hmay,h16⟩:=rightF_may hr
 have hend:=endF_le (nx:=0) hmay
 have HR:=J0 hr
 clear hr
 go_enter Tryz.func76,Tryz.ntmps76
 go_wp2_with (go_at_call 77;refine(rFRight_is _ _ _ _ HR.out _ hA hl hs).mono ?_;rintro e w1 ⟨rfl,hb1⟩)
 go_loopw [4,5,6] (fun v a i wr=>∃k:Nat,k≤fs.length∧i=.int .i64 k∧a=.int .i64 (endF 0 (fs.take k):Nat)∧wr.ownsRow w.heap.size 3 1 v k (intsV ((seqF 0 (fs.take k)).map Prod.fst))∧Below w.heap.size w wr) (fun _ _ i _=>fs.length - (intOf i).toNat)
 case atStart=>exact⟨0,by omega,rfl,rfl,own_nil _ _ _ _,hb1⟩
 case round=>
  obtain⟨k,hk,rfl,rfl,hown,HB⟩:=hrel
  clear hb1
  have hAr:=hA.below HB
  by_cases hlt:k<fs.length
  ·obtain⟨f,hf⟩:∃f,fs[k]?=some f:=⟨_,J4 hlt⟩
   have hm:=hmay f (J7 hf)
   have hle:=endF_le (nx:=0) (hmay.take k)
   rw[Qv,Nat.min_eq_left hk] at hle
   obtain⟨e1,e2⟩:=seqF_take hf
   have ha:=atF_le (nx:=endF 0 (fs.take k)) hm
   have hn1:=Fd.n_le f
   have hn0:=Fd.n_pos hm
   have HL:=J0 f.n_eq.symm
   have HF:=J0 hf
   obtain⟨nx,hnx⟩:∃nx,endF 0 (fs.take k)=nx:=⟨_,rfl⟩
   rw[hnx] at e1 e2 ha hle ⊢
   obtain⟨at_,hat⟩:∃a,atF nx f=a:=⟨_,rfl⟩
   rw[hat] at e1 e2 ha
   have E1:=J0 e1
   have E2:=J0 e2
   have HAT:=J0 hat
   have hA0:=hA
   clear e1 e2 hnx hf hat hA
   go_wp2
   obtain⟨wo,rfl⟩:∃wo:World,wo=wr:=⟨_,rfl⟩
   go_loopw [5] (fun a wr=>∃x:Nat,nx≤x∧x≤at_∧a=.int .i64 x∧wr.ownsRow w.heap.size 3 1 u4 k (intsV ((seqF 0 (fs.take k)).map Prod.fst))∧Below w.heap.size w wr∧Rd wr A (cellsF fs)) (fun a _=>at_ - (intOf a).toNat)
   case atStart=>exact⟨nx,by omega,by omega,rfl,hown,HB,hAr⟩
   case round=>
    obtain⟨x,hx1,hx2,rfl,hown,HB,hAr⟩:=hrel
    obtain⟨ad,hadd,c0,c1,c2⟩:=hAr.fld HF.out
    subst hadd
    by_cases hk12:f.k=12
    ·obtain rfl:x=at_:=by have:=HAT.out;rw[atF,if_pos hk12] at this;omega
     have hk12':(f.k != 12)=false:=by rw[hk12];rfl
     have tok1:=True.intro
     clear hk12
     go_wp2_with (first
      |(have _t:=tok9;go_at_call 92;refine(rLong_is _ _ _ _ HL.out _).mono ?_;rintro e w2 ⟨rfl,hb2⟩;have HB:=HB.trans (hb2.mono HB.size);have hown:=own_below hown hb2;have c0:=cell_below (B:=0) hb2 c0;have c1:=cell_below (B:=0) hb2 c1;have c2:=cell_below (B:=0) hb2 c2;have hAr:=hAr.below hb2;clear tok9 hb2;have tokB:=True.intro;obtain⟨wz,hwz⟩:∃z:World,z=w2:=⟨_,rfl⟩;subst hwz)
      |(at_builtin;refine wpList_append_own _ rfl _ _ 29 rfl w.heap.size 3 i0 (.int .i64 0) 1 8 Tryz.underlying29 hi hz0 hz1 hz2 rfl (by decide) _ _ _ rfl (hown.alloc _) ⟨_,0,none⟩ 1 1 [.int .i64 (x:Int)] rfl rfl (news1 _ _ _) ?c2 ?c3 ?c4 ?c5 ?_))
     case c2=>intro u hu;simp at hu;subst hu;rfl
     case c3=>simp only[maxLen];omega
     case c4=>omega
     case c5=>have:=HB.size;simp;omega
     intro v' w3 hown' hgrow _
     have hs2:=HB.size
     have HB3:=Below.grown (HB.alloc hs2 (.cells #[.int .i64 (x:Int)] 3)) hgrow (by simp;omega) (fun q hq=>own_base hown q hq)
     have hA3:=hA0.below HB3
     obtain⟨ad',hadd',d0,d1,d2⟩:=hA3.fld HF.out
     cases hadd'
     have hown3:w3.ownsRow w.heap.size 3 1 v' (k+1) (intsV ((seqF 0 (fs.take (k+1))).map Prod.fst)):=own_eq hown' rfl (by rw[E1.out];simp[intsV])
     clear hown' hgrow hown c0 c1 c2 hAr hA3
     go_wp2_with (go_at_call 92;refine(rLong_is _ _ _ _ HL.out _).mono ?_;rintro e w4 ⟨rfl,hb4⟩;have HB4:=HB3.trans (hb4.mono HB3.size);have hown4:=own_below hown3 hb4;clear hb4)
     go_roundw
     case rel=>exact⟨k+1,by omega,by go_num,by rw[E2.out];go_num,hown4,HB4⟩
     case measure=>simp[intOf];omega
    ·have hk12':(f.k != 12)=true:=by simpa using hk12
     have hup:upN nx f.n=at_:=by have:=HAT.out;rwa [atF,if_neg hk12] at this
     have hnz:((f.n:Int) == 0)=false:=by simp;omega
     clear hk12
     by_cases hx:x % f.n=0
     ·obtain rfl:x=at_:=by have:=upN_min hn0 hx1 hx;omega
      have hxz:((x:Int) % (f.n:Int) != 0)=false:=by
       have:((x % f.n:Nat):Int)=0:=by rw[hx];rfl
       rw[Int.natCast_emod] at this
       rw[this];rfl
      have tok0:=True.intro
      clear hup hx
      go_wp2_with (first
       |(have _t:=tok0;go_at_call 92;refine(rLong_is _ _ _ _ HL.out _).mono ?_;rintro e w2 ⟨rfl,hb2⟩;have HB:=HB.trans (hb2.mono HB.size);have hown:=own_below hown hb2;have c0:=cell_below (B:=0) hb2 c0;have c1:=cell_below (B:=0) hb2 c1;have c2:=cell_below (B:=0) hb2 c2;have hAr:=hAr.below hb2;clear tok0 hb2;have tokB:=True.intro;obtain⟨wz,hwz⟩:∃z:World,z=w2:=⟨_,rfl⟩;subst hwz)
       |(at_builtin;refine wpList_append_own _ rfl _ _ 29 rfl w.heap.size 3 i0 (.int .i64 0) 1 8 Tryz.underlying29 hi hz0 hz1 hz2 rfl (by decide) _ _ _ rfl (hown.alloc _) ⟨_,0,none⟩ 1 1 [.int .i64 (x:Int)] rfl rfl (news1 _ _ _) ?c2 ?c3 ?c4 ?c5 ?_))
      case c2=>intro u hu;simp at hu;subst hu;rfl
      case c3=>simp only[maxLen];omega
      case c4=>omega
      case c5=>have:=HB.size;simp;omega
      intro v' w3 hown' hgrow _
      have hs2:=HB.size
      have HB3:=Below.grown (HB.alloc hs2 (.cells #[.int .i64 (x:Int)] 3)) hgrow (by simp;omega) (fun q hq=>own_base hown q hq)
      have hA3:=hA0.below HB3
      obtain⟨ad',hadd',d0,d1,d2⟩:=hA3.fld HF.out
      cases hadd'
      have hown3:w3.ownsRow w.heap.size 3 1 v' (k+1) (intsV ((seqF 0 (fs.take (k+1))).map Prod.fst)):=own_eq hown' rfl (by rw[E1.out];simp[intsV])
      clear hown' hgrow hown c0 c1 c2 hAr hA3
      go_wp2_with (go_at_call 92;refine(rLong_is _ _ _ _ HL.out _).mono ?_;rintro e w4 ⟨rfl,hb4⟩;have HB4:=HB3.trans (hb4.mono HB3.size);have hown4:=own_below hown3 hb4;clear hb4)
      go_roundw
      case rel=>exact⟨k+1,by omega,by go_num,by rw[E2.out];go_num,hown4,HB4⟩
      case measure=>simp[intOf];omega
     ·have hxz:((x:Int) % (f.n:Int) != 0)=true:=by
       rw[←Int.natCast_emod];simp;omega
      have hlt2:x<at_:=by
       rcases(by omega:x<at_∨x=at_) with h|h
       ·exact h
       ·exfalso;apply hx;rw[h,←hup];exact upN_mod _ _ hn0
      clear hup hx
      go_wp2_with (go_at_call 92;refine(rLong_is _ _ _ _ HL.out _).mono ?_;rintro e w2 ⟨rfl,hb2⟩;have HB:=HB.trans (hb2.mono HB.size);have hown:=own_below hown hb2;have hAr:=hAr.below hb2;clear hb2)
      go_roundw
      case rel=>exact⟨x+1,by omega,by omega,by go_num,hown,HB,hAr⟩
      case measure=>simp[intOf];omega
  ·obtain rfl:k=fs.length:=by omega
   rw[List.take_length] at hown ⊢
   obtain⟨nx,hnx⟩:∃nx,endF 0 fs=nx:=⟨_,rfl⟩
   obtain⟨up,hup⟩:∃u,upN nx 8=u:=⟨_,rfl⟩
   rw[hnx] at hend ⊢
   have HE:=J0 hnx
   have hu:=upN_le nx 8 (by omega)
   rw[hup] at hu
   have HU:=J0 hup
   clear hnx hup hA hAr
   go_wp2
   obtain⟨wo,rfl⟩:∃wo:World,wo=wr:=⟨_,rfl⟩
   go_loop [5] (fun a=>∃x:Nat,nx≤x∧x≤up∧a=.int .i64 x) (fun a=>up - (intOf a).toNat)
   case atStart=>exact⟨nx,by omega,by omega,rfl⟩
   case round=>
    obtain⟨x,hx1,hx2,rfl⟩:=hrel
    by_cases hx:x % 8=0
    ·obtain rfl:x=up:=by have:=upN_min (by omega) hx1 hx;have:=HU.out;omega
     have hxz:((x:Int) % 8 != 0)=false:=by simp;omega
     clear hx
     go_wp2
     go_ret2
     exact⟨u4,by rw[HE.out,HU.out];rfl,hown,HB⟩
    ·have hxz:((x:Int) % 8 != 0)=true:=by simp;omega
     have hlt2:x<up:=by
      rcases(by omega:x<up∨x=up) with h|h
      ·exact h
      ·exfalso;apply hx;rw[h,←HU.out];exact upN_mod _ _ (by omega)
     clear hx
     go_wp2
     go_round
     case rel=>exact⟨x+1,by omega,by omega,by go_num⟩
     case measure=>simp[intOf];omega
theorem rLayout_is (A:Option Addr) (c:Nat) (fs:List Fd) (z:Nat) (hz:sizeF fs=z) (w:World) (hA:Rd w A (cellsF fs)) (hl:fs.length≤9223372036854775807) (hs:∀f∈fs,f.s.size≤9223372036854775807):
 Calls Tryz.prog 76 #[.slice A fs.length c] w fun e w'=>∃B m c',e=.returned (.tuple #[.slice B m c',.int .i64 (z:Nat)])∧m=(layL fs).length∧Rd w' B (intsV (layL fs))∧Below w.heap.size w w':=by
 subst hz
 cases hr:rightF fs
 ·refine(rLayout_no A c fs hr w hA hl hs).mono ?_
  rintro e w' ⟨rfl,hb⟩
  have e1:layL fs=[]:=by simp[layL,hr]
  have e2:sizeF fs=0:=by simp[sizeF,hr]
  rw[e1,e2]
  exact⟨none,0,0,rfl,rfl,Rd.nil _ _,hb⟩
 ·refine(rLayout_yes A c fs hr w hA hl hs).mono ?_
  rintro e w' ⟨v,rfl,ho,hb⟩
  have e1:layL fs=(seqF 0 fs).map Prod.fst:=by simp[layL,hr]
  have e2:sizeF fs=upN (endF 0 fs) 8:=by simp[sizeF,hr]
  obtain⟨B,c',rfl,_,_,h2⟩:=own_rd ho
  rw[e1,e2]
  exact⟨B,_,c',rfl,by rw[Kz,seqF_length],h2,hb⟩
theorem bl_extract (s:ByteArray) (i j:Nat):bl (s.extract i j)=((bl s).drop i).take (j - i):=by
 simp[bl,ByteArray.data_extract]
theorem rDecode_is (s n:ByteArray) (k long:Int) (hs:s.size≤9223372036854775807) (v:Vl) (q:Int) (hv:decV (bl s) k long=v.v) (hq:decE (bl s) k long=q) (w:World):
 Calls Tryz.prog 93 #[.string s,.agg #[.string n,.int .i64 k,.int .i64 long]] w fun e w'=>e=.returned (.tuple #[.agg #[.int .i64 v.k,.int .u64 v.b,.string v.t],.int .i64 q])∧Below w.heap.size w w':=by
 subst hq
 have:=rDecode_calls s n k long hs w
 rw[hv] at this
 exact this
theorem own_far {w:World} {base:Nat} {e:TypeId} {size n:Nat} {v:Value} {xs:List Value} (h:w.ownsRow base e size v n xs):∃A c,v=.slice A n c∧n≤c∧c≤maxLen∧Rd w A xs∧∀ad,A=some ad→base≤ad.block:=by
 obtain⟨A,c,e,h1,h2,h3⟩:=own_rd h
 refine⟨A,c,e,h1,h2,h3,fun ad ha=>?_⟩
 subst ha
 exact own_base h ad.block (by rw[e];rfl)
theorem rLayout_at (A:Option Addr) (c:Nat) (fs:List Fd) (z:Nat) (hz:sizeF fs=z) (w:World) (hA:Rd w A (cellsF fs)) (hl:fs.length≤9223372036854775807) (hs:∀f∈fs,f.s.size≤9223372036854775807):
 Calls Tryz.prog 76 #[.slice A fs.length c] w fun e w'=>∃B m c',e=.returned (.tuple #[.slice B m c',.int .i64 (z:Nat)])∧m=(layL fs).length∧Rd w' B (intsV (layL fs))∧(∀ad,B=some ad→w.heap.size≤ad.block)∧Below w.heap.size w w':=by
 subst hz
 cases hr:rightF fs
 ·refine(rLayout_no A c fs hr w hA hl hs).mono ?_
  rintro e w' ⟨rfl,hb⟩
  have e1:layL fs=[]:=by simp[layL,hr]
  have e2:sizeF fs=0:=by simp[sizeF,hr]
  rw[e1,e2]
  exact⟨none,0,0,rfl,rfl,Rd.nil _ _,(fun _ h=>by cases h),hb⟩
 ·refine(rLayout_yes A c fs hr w hA hl hs).mono ?_
  rintro e w' ⟨v,rfl,ho,hb⟩
  have e1:layL fs=(seqF 0 fs).map Prod.fst:=by simp[layL,hr]
  have e2:sizeF fs=upN (endF 0 fs) 8:=by simp[sizeF,hr]
  obtain⟨B,c',rfl,_,_,h2,h3⟩:=own_far ho
  rw[e1,e2]
  exact⟨B,_,c',rfl,by rw[Kz,seqF_length],h2,h3,hb⟩
theorem far3 {w:World} {b:Nat} {x y z v:Value} {q:Addr} (h:w.cell? q=some v) (hne:q.block≠b):(((w.setCell ⟨b,0,none⟩ x).setCell ⟨b,1,none⟩ y).setCell ⟨b,2,none⟩ z).cell? q=some v:=by
 have e:∀(u:World) (o:Nat) (x:Value),(u.setCell ⟨b,o,none⟩ x).cell? q=u.cell? q:=fun u o x=>by
  simp only[World.cell?]
  rw[J5 u ⟨b,o,none⟩ x q.block (fun e=>hne e)]
 rw[e,e,e];exact h
theorem rGet_bad (s:ByteArray) (A:Option Addr) (c:Nat) (fs:List Fd) (nm:ByteArray) (q:Int) (h:locF fs s.size nm=.inl q) (w:World) (hA:Rd w A (cellsF fs)) (hl:fs.length≤9223372036854775807) (hs:∀f∈fs,f.s.size≤9223372036854775807):
 Calls Tryz.prog 78 #[.string s,.slice A fs.length c,.string nm] w fun e w'=>e=.returned (.tuple #[.agg #[.int .i64 0,.int .u64 0,.string ⟨#[]⟩],.int .i64 q])∧Below w.heap.size w w':=by
 obtain⟨z,hz⟩:∃z,sizeF fs=z:=⟨_,rfl⟩
 have HZ:=J0 hz
 have hcase:(rightF fs=false∧q=60)∨(rightF fs=true∧((s.size:Int) != (z:Int))=true∧q=60)∨(rightF fs=true∧((s.size:Int) != (z:Int))=false∧q=61∧findZ fs nm<0):=by
  rcases loc_bad h with ⟨rfl,h1⟩|⟨rfl,h1,h2,h3⟩
  ·cases hr:rightF fs
   ·exact .inl ⟨rfl,rfl⟩
   ·rw[hr] at h1
    have h1:=h1.resolve_left (by simp)
    exact .inr (.inl ⟨rfl,by rw[←hz];simp;omega,rfl⟩)
  ·exact .inr (.inr ⟨h1,by rw[←hz,h2];simp,rfl,h3⟩)
 clear h hz
 rcases hcase with ⟨hr,rfl⟩|⟨hr,hne,rfl⟩|⟨hr,hne,rfl,hk⟩
 ·have HR:=J0 hr
  clear hr
  go_enter Tryz.func78,Tryz.ntmps78
  go_wp2_with (first
   |(go_at_call 76;refine(rLayout_is A c fs z HZ.out _ (hA.below (below_new _)) hl hs).mono ?_;rintro e w1 ⟨B,m,c',rfl,hm,hrd,hb1⟩;have hA1:=(hA.below (below_new _)).below hb1)
   |(go_at_call 77;refine(rFRight_is A c fs _ HR.out _ hA1 hl hs).mono ?_;rintro e w2 ⟨rfl,hb2⟩;obtain⟨k0,k1,k2,f0,f1,f2⟩:=(((OBox.new w [.int .i64 0,.int .u64 0,.string ⟨#[]⟩] 71).below hb1).below hb2).f3;have HB:=below_seq (below_seq (below_new _) hb1) hb2))
  refine bodyPost_ret (v:=.tuple #[.agg #[.int .i64 0,.int .u64 0,.string ⟨#[]⟩],.int .i64 60]) (by simp[results,Tryz.results78,go_sem, *];done) rfl ⟨rfl,?_⟩
  (repeat (first|exact HB|refine J8 ?_ (by dsimp only;omega) _|refine Jk ?_ (by have hs_:=HB.size;first|(simp;done)|(simp;omega)|omega) _|apply Jv))
 ·have HR:=J0 hr
  clear hr
  go_enter Tryz.func78,Tryz.ntmps78
  go_wp2_with (first
   |(go_at_call 76;refine(rLayout_is A c fs z HZ.out _ (hA.below (below_new _)) hl hs).mono ?_;rintro e w1 ⟨B,m,c',rfl,hm,hrd,hb1⟩;have hA1:=(hA.below (below_new _)).below hb1)
   |(go_at_call 77;refine(rFRight_is A c fs _ HR.out _ hA1 hl hs).mono ?_;rintro e w2 ⟨rfl,hb2⟩;obtain⟨k0,k1,k2,f0,f1,f2⟩:=(((OBox.new w [.int .i64 0,.int .u64 0,.string ⟨#[]⟩] 71).below hb1).below hb2).f3;have HB:=below_seq (below_seq (below_new _) hb1) hb2))
  refine bodyPost_ret (v:=.tuple #[.agg #[.int .i64 0,.int .u64 0,.string ⟨#[]⟩],.int .i64 60]) (by simp[results,Tryz.results78,go_sem, *];done) rfl ⟨rfl,?_⟩
  (repeat (first|exact HB|refine J8 ?_ (by dsimp only;omega) _|refine Jk ?_ (by have hs_:=HB.size;first|(simp;done)|(simp;omega)|omega) _|apply Jv))
 ·have HR:=J0 hr
  obtain⟨k,hkz⟩:∃k,findZ fs nm=k:=⟨_,rfl⟩
  rw[hkz] at hk
  have HK:=J0 hkz
  have hd:decide (k<0)=true:=by simpa using hk
  clear hr hkz
  go_enter Tryz.func78,Tryz.ntmps78
  go_wp2_with (first
   |(go_at_call 76;refine(rLayout_is A c fs z HZ.out _ (hA.below (below_new _)) hl hs).mono ?_;rintro e w1 ⟨B,m,c',rfl,hm,hrd,hb1⟩;have hA1:=(hA.below (below_new _)).below hb1)
   |(go_at_call 77;refine(rFRight_is A c fs _ HR.out _ hA1 hl hs).mono ?_;rintro e w2 ⟨rfl,hb2⟩;have hA2:=hA1.below hb2)
   |(go_at_call 114;refine(rFind_is A c fs _ _ HK.out _ hA2 hl).mono ?_;rintro e w3 ⟨rfl,rfl⟩;obtain⟨k0,k1,k2,f0,f1,f2⟩:=(((OBox.new w [.int .i64 0,.int .u64 0,.string ⟨#[]⟩] 71).below hb1).below hb2).f3;have HB:=below_seq (below_seq (below_new _) hb1) hb2))
  refine bodyPost_ret (v:=.tuple #[.agg #[.int .i64 0,.int .u64 0,.string ⟨#[]⟩],.int .i64 61]) (by simp[results,Tryz.results78,go_sem, *];done) rfl ⟨rfl,?_⟩
  (repeat (first|exact HB|refine J8 ?_ (by dsimp only;omega) _|refine Jk ?_ (by have hs_:=HB.size;first|(simp;done)|(simp;omega)|omega) _|apply Jv))
theorem rGet_ok (s:ByteArray) (A:Option Addr) (c:Nat) (fs:List Fd) (nm:ByteArray) (at_:Nat) (f:Fd) (h:locF fs s.size nm=.inr (at_,f)) (w:World) (hA:Rd w A (cellsF fs)) (hl:fs.length≤9223372036854775807) (hs:∀f∈fs,f.s.size≤9223372036854775807):
 Calls Tryz.prog 78 #[.string s,.slice A fs.length c,.string nm] w fun e w'=>e=.returned (.tuple #[(decF (((bl s).drop at_).take f.n) f).v,.int .i64 (decE (((bl s).drop at_).take f.n) f.k f.l)])∧Below w.heap.size w w':=by
 obtain⟨hm,hin,hlen,hn⟩:=loc_in h
 obtain⟨hr,hz,k,hk,hf,hat⟩:=loc_ok h
 have hn2:=f.n_le
 obtain⟨sub,hsub⟩:∃x,s.extract at_ (at_+f.n)=x:=⟨_,rfl⟩
 have hbs:((bl s).drop at_).take f.n=bl sub:=by rw[←hsub,bl_extract];congr 1;omega
 rw[hbs]
 obtain⟨dv,hdv⟩:∃x,decF (bl sub) f=x:=⟨_,rfl⟩
 obtain⟨de,hde⟩:∃x,decE (bl sub) f.k f.l=x:=⟨_,rfl⟩
 rw[hdv,hde]
 have HDV:=J0 ((decF_v _ f).trans (congrArg Vl.v hdv))
 have HDE:=J0 hde
 have hsz:sub.size≤9223372036854775807:=by
  have:=congrArg List.length hbs
  rw[bl_length,Qv] at this;omega
 have HSUB:=J0 hsub
 have HN:=J0 f.n_eq.symm
 have HR:=J0 hr
 have HZ:=J0 hz.symm
 have HK:=J0 hk
 have HF:=J0 hf
 have HT:=J0 hat
 have hk1:=(J6.1 hf).1
 have hk2:=(J6.1 hat).1
 clear h hdv hde hr hz hk hf hat hbs hsub
 go_enter Tryz.func78,Tryz.ntmps78
 go_wp2_with (first
  |(go_at_call 76;refine(rLayout_at A c fs s.size HZ.out _ (hA.below (below_new _)) hl hs).mono ?_;rintro e w1 ⟨B,m,c',rfl,hm,hrd,hfar,hb1⟩;have hA1:=(hA.below (below_new _)).below hb1)
  |(go_at_call 77;refine(rFRight_is A c fs _ HR.out _ hA1 hl hs).mono ?_;rintro e w2 ⟨rfl,hb2⟩;have hA2:=hA1.below hb2)
  |(go_at_call 114;refine(rFind_is A c fs _ _ HK.out _ hA2 hl).mono ?_;rintro e w3 ⟨rfl,rfl⟩;have O2:=((OBox.new w [.int .i64 0,.int .u64 0,.string ⟨#[]⟩] 71).below hb1).below hb2;have HB:=below_seq (below_seq (below_new _) hb1) hb2;obtain⟨ad,rfl,g0,g1,g2⟩:=hA2.fld HF.out;obtain⟨bd,rfl,g3⟩:=(hrd.below hb2).int HT.out;have hfb:=hfar bd rfl;obtain⟨ad',hade,g4,_,_⟩:=hA.fld HF.out;cases hade;have hfa:=World.block_lt_of_cell? w _ g4))
 have hi0:(0:Int)≤(k:Int):=by omega
 have hi1:(k:Int)<((layL fs).length:Int):=by omega
 have hi2:(k:Int)<(fs.length:Int):=by omega
 have hlong:sub.size≤9223372036854775807:=hsz
 have hs1:(at_:Int)≤(at_:Int)+(f.n:Int):=by omega
 have hs2:(at_:Int)+(f.n:Int)≤(s.size:Int):=by omega
 have hs3:((at_:Int)+(f.n:Int)).toNat=at_+f.n:=by omega
 have hs4:(0:Int)≤(at_:Int)+(f.n:Int):=by omega
 have hs5:IntKind.i64.wrap ((at_:Int)+(f.n:Int))=(at_:Int)+(f.n:Int):=Xq _ (by omega)
 have hcut:=HSUB.out
 have O3:OBox w2.drew w.heap.size [.int .i64 0,.int .u64 0,.string ⟨#[]⟩] 71:=O2
 have HB:=HB.drew
 have hne1:(bd.add k).block≠w.heap.size:=by rw[show (bd.add k).block=bd.block by unfold Addr.add;split <;> rfl];simp at hfb;omega
 have hne2:(ad.add (k * 3)).block≠w.heap.size:=by omega
 clear g4 hfa hfar hfb
 clear hA hA1 hA2 HR HZ HK HF HT hrd hb1 hb2 hs
 go_region_held3 (fun w'=>w'.cell? (bd.add k)=some (.int .i64 at_)∧w'.cell? (ad.add (k * 3))=some (.string f.s)∧w'.cell? ⟨(ad.add (k * 3)).block,(ad.add (k * 3)).off+1,none⟩=some (.int .i64 f.k)∧w'.cell? ⟨(ad.add (k * 3)).block,(ad.add (k * 3)).off+2,none⟩=some (.int .i64 f.l))
  (first|go_keep|(go_split_ands;refine⟨?_,?_,?_,?_⟩ <;> (first|exact cell_below (B:=0) hb4 (by assumption)|exact cell_below (B:=0) hb3 (by assumption)))|(go_split_ands;exact⟨far3 (by assumption) hne1,far3 (by assumption) hne2,far3 (by assumption) hne2,far3 (by assumption) hne2⟩))
  (first
    |(go_at_call 92;refine(rLong_is _ _ _ _ HN.out _).mono ?_;rintro e w3 ⟨rfl,hb3⟩)
    |(go_at_call 93;refine(rDecode_is _ _ _ _ hlong dv de HDV.out HDE.out _).mono ?_;rintro e w4 ⟨rfl,hb4⟩;obtain⟨l0,l1,l2,m0,m1,m2⟩:=((O3.below hb3).below hb4).f3))
 go_wp2
 refine bodyPost_ret (v:=.tuple #[.agg #[.int .i64 dv.k,.int .u64 dv.b,.string dv.t],.int .i64 de]) (by simp[results,Tryz.results78,go_sem, *];done) rfl ⟨rfl,?_⟩
 have HB:=below_seq (below_seq HB hb3) hb4
 (repeat (first|exact HB|refine J8 ?_ (by dsimp only;omega) _|refine Jk ?_ (by have hs_:=HB.size;first|(simp;done)|(simp;omega)|omega) _|apply Jv))
theorem rGet_calls (s:ByteArray) (A:Option Addr) (c:Nat) (fs:List Fd) (nm:ByteArray) (w:World) (hA:Rd w A (cellsF fs)) (hl:fs.length≤9223372036854775807) (hs:∀f∈fs,f.s.size≤9223372036854775807):
 Calls Tryz.prog 78 #[.string s,.slice A fs.length c,.string nm] w fun e w'=>e=.returned (.tuple #[(getV (bl s) fs nm).v,.int .i64 (getE (bl s) fs nm)])∧Below w.heap.size w w':=by
 cases h:locF fs s.size nm with
 |inl q=>
  have e1:getV (bl s) fs nm=Vl.z:=by simp[getV,bl_length,h]
  have e2:getE (bl s) fs nm=q:=by simp[getE,bl_length,h]
  rw[e1,e2]
  exact rGet_bad s A c fs nm q h w hA hl hs
 |inr x=>
  obtain⟨at_,f⟩:=x
  have e1:getV (bl s) fs nm=decF (((bl s).drop at_).take f.n) f:=by simp[getV,bl_length,h]
  have e2:getE (bl s) fs nm=decE (((bl s).drop at_).take f.n) f.k f.l:=by simp[getE,bl_length,h]
  rw[e1,e2]
  exact rGet_ok s A c fs nm at_ f h w hA hl hs
end
end Go.Proofs.YteembinfgbapgaaGreat
