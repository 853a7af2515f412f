/- Merged out of: Gf Gg Gh Gi Gj Gk Gl Gm Gn Go Gp Gq Gt. -/
import Derived.Test.YteembinfgbapgaaGreatE00
import Derived.Test.YteembinfgbapgaaGreatE02
import Derived.RangeFuncNested
import Derived.RangeFuncBox
import Derived.RangeFuncLeaves
import Derived.RangeFuncCalls
import Derived.Shelf.Abstract
import Derived.OwnWalkIn
import Derived.TacticsInMore
import Derived.LoopNIn
import Derived.LoopIn
import Derived.Maps.AppendAt
import Derived.Deep.RegionWith
import Derived.IntWalk
import Derived.WalkSpells
import Derived.Laws.CopyOwn
import Derived.Deep.RegionHeld3
import Derived.Deep.AppendLies
import Derived.Lib.AppendStr
set_option linter.unusedSimpArgs false
set_option linter.unusedVariables false
set_option maxRecDepth 100000
set_option maxHeartbeats 8000000
namespace Go.Proofs.YteembinfgbapgaaGreat
section
open Go.RowKit
def Fd.n (f:Fd):Nat:=(aT f.k f.l).toNat
theorem Fd.n_eq (f:Fd):(f.n:Int)=aT f.k f.l:=by have:=qu f.k f.l;unfold Fd.n;omega
theorem Fd.n_le (f:Fd):f.n<=64:=by have:=qu f.k f.l;unfold Fd.n;omega
theorem Fd.n_pos {f:Fd} (h:bW f.k f.l=true):0<f.n:=by
 have:=qu f.k f.l
 have:¬aT f.k f.l=0:=fun e=>by rw[(fu _ _).1 e] at h;cases h
 unfold Fd.n;omega
def rl (nx:Nat) (f:Fd):Nat:=if f.k=12 then nx else yZ nx f.n
def dd:Nat->List Fd->Nat
 |nx,[]=>nx
 |nx,f :: r=>dd (rl nx f+f.n) r
def iC:Nat->List Fd->List (Nat×Fd)
 |_,[]=>[]
 |nx,f :: r=>(rl nx f,f) :: iC (rl nx f+f.n) r
theorem pg (nx:Nat) (a:List Fd) (f:Fd):dd nx (a++[f])=rl (dd nx a) f+f.n:=by
 induction a generalizing nx with
 |nil=>rfl
 |cons g r ih=>exact ih _
theorem qL (nx:Nat) (a:List Fd) (f:Fd):iC nx (a++[f])=iC nx a++[(rl (dd nx a) f,f)]:=by
 induction a generalizing nx with
 |nil=>rfl
 |cons g r ih=>simp only[List.cons_append,iC,ih,dd]
theorem gZ (nx:Nat) (a:List Fd):(iC nx a).length=a.length:=by
 induction a generalizing nx with
 |nil=>rfl
 |cons g r ih=>simp[iC,ih]
def oy (fs:List Fd):Prop:=∀f∈fs,bW f.k f.l=true
theorem vt (a n:Nat) (h:0<n):yZ a n<=a+n - 1/\a<=yZ a n:=by
 unfold yZ
 have h1:=Nat.div_mul_le_self (a+n - 1) n
 have h2:=Nat.lt_div_mul_add h (a:=a+n - 1)
 omega
theorem qY {nx:Nat} {f:Fd} (h:bW f.k f.l=true):rl nx f<=nx+63/\nx<=rl nx f:=by
 unfold rl
 split
 ·omega
 ·have:=vt nx f.n (Fd.n_pos h)
  have:=f.n_le
  omega
theorem qk {nx:Nat} {fs:List Fd} (h:oy fs):dd nx fs<=nx+128 * fs.length:=by
 induction fs generalizing nx with
 |nil=>simp[dd]
 |cons g r ih=>
  have h1:=qY (nx:=nx) (h g (List.mem_cons_self ..))
  have h2:=g.n_le
  have h3:=ih (nx:=rl nx g+g.n) (fun f hf=>h f (List.mem_cons_of_mem _ hf))
  rw[dd,Xq];omega
theorem oy.take {fs:List Fd} (h:oy fs) (k:Nat):oy (fs.take k):=fun f hf=>h f (List.mem_of_mem_take hf)
abbrev PF:={ x:Nat×Fd // x.1<=1000000 }
def tG (x:PF):Array ER:=#[.int .i64 (x.1.1:Int),.agg #[.string x.1.2.s,.int .i64 x.1.2.k,.int .i64 x.1.2.l]]
structure mx (n₀:Nat) (W W':EQ):Prop where
 below:Below n₀ W W'
 fld:∀(b:Nat) (cs:Array ER) (d:Nat×Nat),W.heap[b]?=some (.cells cs 68 d)->W'.heap[b]?=some (.cells cs 68 d)
theorem mx.trans {n₀:Nat} {A B C:EQ} (h:mx n₀ A B) (k:mx n₀ B C):mx n₀ A C:=⟨h.below.trans k.below,fun b cs d hb=>k.fld b cs d (h.fld b cs d hb)⟩
theorem mx.of_below {n₀:Nat} {A B:EQ} (h:Below A.heap.size A B) (hn:n₀<=A.heap.size):mx n₀ A B:=⟨h.mono hn,fun b cs d hb=>(h.block b (Qq.1 hb).1).trans hb⟩
theorem mx.putObj {n₀:Nat} {w:EQ} (hn:n₀<=w.heap.size) (W:EQ) (l:Nat) (o o':Obj) (hl:w.heap.size<=l) (h:W.heap[l]?=some o) (hc:o.isCells=false) (hw:o.isWalk=false):mx n₀ W (W.putObj l o'):=
 ⟨belowK_b hn W l o o' hl h hc hw,fun b cs d hb=>by
  have hne:b≠l:=by rintro rfl;rw[h] at hb;cases hb;cases hc
  exact(World.putObj_heap_other (by omega)).trans hb⟩
theorem rG (A:EL) (n c:Nat) (w:EQ):
 CallsIn Fence.wide 3 Tryz.prog 104 #[.slice A n c] w fun e w'=>e=.returned (.func (.func 156) #[] #[.pointer (some ⟨w.heap.size,0,none⟩)])/\w'=w.alloc (.cells #[.slice A n c] 27):=by
 rw[callsIn_wide]
 have hmf:∀(fn:Fn) (first cap:Array ER) (w:EQ),(Instr.makeFunc fn first cap).run Tryz.prog w=.ok (.func fn first cap) w:=fun _ _ _ _=>rfl
 go_enter Tryz.func104,Tryz.ntmps104
 go_wp2
 go_ret
 exact⟨rfl,rfl⟩
theorem ed {w w':EQ} (h:Below w.heap.size w w'):w.grownBy w' none:=⟨h.os,h.tape,h.output,h.size,fun k hk _=>h.block k hk⟩
attribute [local go_sem] Oper.semAt_some
theorem lS {fs:List Fd} {k:Nat} {f:Fd} (hf:fs[k]?=some f):iC 0 (fs.take (k+1))=iC 0 (fs.take k)++[(rl (dd 0 (fs.take k)) f,f)]/\dd 0 (fs.take (k+1))=rl (dd 0 (fs.take k)) f+f.n:=by
 have e:fs.take (k+1)=fs.take k++[f]:=by rw[Vv,hf];rfl
 rw[e,qL,pg]
 exact⟨rfl,rfl⟩
theorem cG.of {W:EQ} {b:Nat} {s:EP} {k l:Int} {d:Nat×Nat} (h:W.heap[b]?=some (.cells #[.string s,.int .i64 k,.int .i64 l] 68 d)):cG W b s k l:=by
 refine⟨?_,?_,?_⟩ <;> simp[World.cell?,h]
set_option maxRecDepth 100000 in
theorem vT (n:Nat) (hn:1<=n) (l Bl:Nat) (A:EL) (c:Nat) (fs:List Fd) (hmay:oy fs) (hlen:fs.length<=16) (w0:EQ) (hA:Rd w0 A (aC fs)) (J Jx:List PF->EQ->Prop) (W:EQ)
 (hJ:AbidesFrom W.heap.size J)
 (hY:∀pre x W1,J pre W1->pre.length<fs.length->YieldAt Fence.wide (n - 1) Tryz.prog l (tG x) W1 fun e W'=>
   (e=.returned (.bool true)/\J (pre++[x]) W'/\mx w0.heap.size W1 W')\/(e=.returned (.bool false)/\Jx (pre++[x]) W'))
 (hBl:W.cell? ⟨Bl,0,none⟩=some (.slice A fs.length c)) (hW:Below w0.heap.size w0 W) (h0:J [] W):
 CallsIn Fence.wide n Tryz.prog 156 #[.func (.yield l) #[] #[],.pointer (some ⟨Bl,0,none⟩)] W fun e W'=>(∃v,e=.returned v)/\
  ((∃ys,ys.map Subtype.val=iC 0 fs/\J ys W')\/(∃pre,True/\Jx pre W')):=by
 refine callsIn_of_wp Tryz.func156 rfl trivial ?_ rfl
 simp only[Tryz.ntmps156,List.size_toArray,Xq,List.length_nil,Nat.reduceAdd,Nat.reduceSub,Array.replicate_succ,Array.replicate_zero,List.push_toArray,List.append_toArray,List.nil_append,List.cons_append]
 gi_wp2
 gi_loopw [3,5,8] (fun nx _ i wr=>∃(k:Nat) (pre:List PF),k<=fs.length/\i=.int .i64 k/\nx=.int .i64 (dd 0 (fs.take k):Nat)/\pre.map Subtype.val=iC 0 (fs.take k)/\J pre wr/\Below w0.heap.size w0 wr) (fun _ _ i _=>fs.length - (intOf i).toNat)
 case atStart=>exact⟨0,[],by omega,rfl,rfl,rfl,h0,hW⟩
 case round=>
  obtain⟨k,pre,hk,rfl,rfl,hpre,hJs,HB⟩:=hrel
  have hAr:=hA.below HB
  by_cases hlt:k<fs.length
  ·obtain⟨f,hf⟩:∃f,fs[k]?=some f:=⟨_,J4 hlt⟩
   obtain⟨ad,rfl,c0,c1,c2⟩:=hAr.fld hf
   have hm:=hmay f (J7 hf)
   have hle:=qk (nx:=0) (hmay.take k)
   rw[Qx,Nat.min_eq_left hk] at hle
   obtain⟨e1,e2⟩:=lS hf
   have ha:=qY (nx:=dd 0 (fs.take k)) hm
   have hpl:pre.length<fs.length:=by
    have:=congrArg List.length hpre
    rw[Kz,gZ,Qx,Nat.min_eq_left hk] at this
    omega
   have hn1:=Fd.n_le f
   have hn0:=Fd.n_pos hm
   have HL:=J0 f.n_eq.symm
   obtain⟨nx,hnx⟩:∃nx,dd 0 (fs.take k)=nx:=⟨_,rfl⟩
   rw[hnx] at e1 e2 ha hle |-
   obtain⟨at_,hat⟩:∃a,rl nx f=a:=⟨_,rfl⟩
   rw[hat] at e1 e2 ha
   have E1:=J0 e1
   have E2:=J0 e2
   have HP:=J0 hpre
   have hb0:(wr.alloc (.cells #[.string f.s,.int .i64 f.k,.int .i64 f.l] 68)).heap[wr.heap.size]?=some (.cells #[.string f.s,.int .i64 f.k,.int .i64 f.l] 68 (0,0)):=Y7 wr _
   have hJ0:J pre (wr.alloc (.cells #[.string f.s,.int .i64 f.k,.int .i64 f.l] 68)):=hJ _ _ _ none hJs (World.grownBy_alloc _ _ _) (fun _ h=>by cases h)
   have HB0:=HB.alloc HB.size (.cells #[.string f.s,.int .i64 f.k,.int .i64 f.l] 68)
   clear e1 e2 hpre hnx hf hA hAr hJs
   by_cases hk12:f.k=12
   ·obtain rfl:nx=at_:=by rw[<-hat,rl,Xz hk12]
    clear hat
    have hk12':(f.k != 12)=false:=by rw[hk12];rfl
    obtain⟨fn,tmps,assign,body,hy,hR⟩:=hY _ ⟨(nx,f),by show nx<=_;omega⟩ _ hJ0 hpl
    dsimp only[tG] at hy
    clear hk12
    gi_wp2
    refine hR.mono ?_
    rintro e W3 (⟨rfl,hJ3,hk3⟩|⟨rfl,hJx3⟩)
    ·obtain⟨d0,d1,d2⟩:=cG.of (hk3.fld _ _ _ hb0)
     gi_wp2_with (refine⟨trivial,?_⟩;gi_at_call 89;refine(callsIn_wide.2 (eX _ _ _ _ HL.out _)).mono ?_;rintro e w4 ⟨rfl,hb4⟩)
     go_roundw
     case rel=>exact⟨k+1,pre++[⟨(nx,f),by show nx<=_;omega⟩],by omega,by go_num,by rw[E2.out];go_num,by rw[List.map_append,HP.out,E1.out];rfl,hJ _ _ _ none hJ3 (ed hb4) (fun _ h=>by cases h),(HB0.trans hk3.below).trans (hb4.mono (Q7 (Q7 HB0.size hk3.below.size) (J9 _)))⟩
     case measure=>simp[intOf];omega
    ·gi_wp2
     refine Xx (results_none rfl _ _ _) rfl ?_
     exact⟨⟨_,rfl⟩,.inr ⟨_,trivial,hJx3⟩⟩
   ·have hup:yZ nx f.n=at_:=by rw[<-hat,rl,Xy hk12]
    have HU:=J0 hup
    clear hat hup
    have hk12':(f.k != 12)=true:=by simpa using hk12
    have F0:=cG.new wr f.s f.k f.l
    have hpl2:pre.length<fs.length:=hpl
    clear hk12
    gi_wp2_with (first
     |(refine⟨trivial,?_⟩;gi_at_call 89;refine(callsIn_wide.2 (eX _ _ _ _ HL.out _)).mono ?_;rintro e w2 ⟨rfl,hb2⟩;obtain⟨g0,g1,g2⟩:=F0.below hb2)
     |(refine⟨trivial,?_⟩;gi_at_call 105;refine(callsIn_wide.2 (uO nx f.n hn0 (by omega) _)).mono ?_;rintro e w3 ⟨rfl,rfl⟩;rw[HU.out];obtain⟨fn,tmps,assign,body,hy,hR⟩:=hY _ ⟨(at_,f),by show at_<=_;omega⟩ _ (hJ _ _ _ none hJ0 (ed hb2) (fun _ h=>by cases h)) hpl;dsimp only[tG] at hy))
    refine hR.mono ?_
    rintro e W3 (⟨rfl,hJ3,hk3⟩|⟨rfl,hJx3⟩)
    ·obtain⟨d0,d1,d2⟩:=cG.of (hk3.fld _ _ _ ((hb2.block _ (by simp)).trans hb0))
     gi_wp2_with (refine⟨trivial,?_⟩;gi_at_call 89;refine(callsIn_wide.2 (eX _ _ _ _ HL.out _)).mono ?_;rintro e w4 ⟨rfl,hb4⟩)
     go_roundw
     case rel=>exact⟨k+1,pre++[⟨(at_,f),by show at_<=_;omega⟩],by omega,by go_num,by rw[E2.out];go_num,by rw[List.map_append,HP.out,E1.out];rfl,hJ _ _ _ none hJ3 (ed hb4) (fun _ h=>by cases h),((HB0.trans (hb2.mono HB0.size)).trans hk3.below).trans (hb4.mono (Q7 (Q7 HB0.size hb2.size) hk3.below.size))⟩
     case measure=>simp[intOf];omega
    ·gi_wp2
     refine Xx (results_none rfl _ _ _) rfl ?_
     exact⟨⟨_,rfl⟩,.inr ⟨_,trivial,hJx3⟩⟩
  ·obtain rfl:k=fs.length:=by omega
   rw[List.take_length] at hpre
   clear hA hAr hJ hY
   gi_wp2
   go_end0
   exact⟨⟨_,rfl⟩,.inl ⟨pre,hpre,hJs⟩⟩
attribute [local go_sem] Oper.semAt_some
theorem rH (n:Nat) (hn:1<=n) (Bl:Nat) (A:EL) (c:Nat) (fs:List Fd) (hmay:oy fs) (hlen:fs.length<=16) (w0 w:EQ) (hA:Rd w0 A (aC fs)) (hb:Below w0.heap.size w0 w) (hBl:w.cell? ⟨Bl,0,none⟩=some (.slice A fs.length c)):
 SeqStopsK Fence.wide n Tryz.prog 156 #[.pointer (some ⟨Bl,0,none⟩)] tG (mx w0.heap.size) (fun ys=>ys.map Subtype.val=iC 0 fs) (fun _=>True) fs.length w:=fun l J Jx W hW hJ _ hY h0=>
 vT n hn l Bl A c fs hmay hlen w0 hA J Jx W hJ hY (aE (B:=0) hW hBl) (hb.trans (hW.mono hb.size)) h0
def gw (l:List Nat):EO:=l.map fun (n:Nat)=>Value.int .i64 (n:Int)
def fT (fs:List Fd):List Nat:=if aK fs=true then(iC 0 fs).map Prod.fst else[]
def bP (fs:List Fd):Nat:=if aK fs=true then yZ (dd 0 fs) 8 else 0
theorem BB:(Tryz.prog.info? 3).map (fun i=>(i.zero,i.size,i.bytes))=some (some (.int .i64 0),1,8):=by kernel_rfl
theorem aQ {fs:List Fd} (h:aK fs=true):oy fs/\fs.length<=16:=by
 simp only[aK,Qz,Y8] at h
 refine⟨fun f hf=>?_,h.2⟩
 obtain⟨i,hi,rfl⟩:=List.getElem_of_mem hf
 have:=h.1 i hi
 simp only[vJ,Qz] at this
 exact this.1.2
theorem dA (A:EL) (c:Nat) (fs:List Fd) (r:Bool) (h:aK fs=r) (w:EQ) (hA:Rd w A (aC fs)) (hl:fs.length<=9223372036854775807):
 Calls Tryz.prog 62 #[.slice A fs.length c] w fun e w'=>e=.returned (.bool r)/\Below w.heap.size w w':=h▸qU A c fs w hA hl
def wZ:List PF->Nat
 |[]=>0
 |[x]=>x.1.1+x.1.2.n
 |_ :: y :: r=>wZ (y :: r)
theorem nZ (pre:List PF) (x:PF):wZ (pre++[x])=x.1.1+x.1.2.n:=by
 induction pre with
 |nil=>rfl
 |cons y r ih=>
  cases r with
  |nil=>rfl
  |cons z r=>exact ih
theorem xu (ys:List PF) (fs:List Fd) (h:ys.map Subtype.val=iC 0 fs):wZ ys=dd 0 fs:=by
 rcases List.eq_nil_or_concat fs with rfl|⟨fs,f,rfl⟩
 ·have:ys=[]:=by simpa[iC] using h
  subst this;rfl
 ·rw[List.concat_eq_append,qL] at h
  rcases List.eq_nil_or_concat ys with rfl|⟨ys,y,rfl⟩
  ·simp at h
  ·rw[List.concat_eq_append,List.map_append] at h
   have h2:=(List.append_inj' h rfl).2
   simp at h2
   rw[List.concat_eq_append,List.concat_eq_append,nZ,pg,h2]
theorem mx.alloc {n₀:Nat} {W:EQ} (h:n₀<=W.heap.size) (o:Obj):mx n₀ W (W.alloc o):=mx.of_below (aA o) h
theorem lp {W W':EQ} {B:Nat} {t:ES} {v:ER} (h:Boxed W B t v) (hb:Below W.heap.size W W'):Boxed W' B t v:=(hb.block B h.lt).trans h
theorem mx.setCell {n₀:Nat} {W:EQ} {B:Nat} {t:ES} {u:ER} (h:Boxed W B t u) (hB:n₀<=B) (ht:t≠68) (v:ER):mx n₀ W (W.setCell ⟨B,0,none⟩ v):=
 ⟨(Jy _ _).setCell (p:=⟨B,0,none⟩) hB v,fun b cs d hb=>by
   refine(J5 _ _ _ b (fun e=>?_)).trans hb
   have e':b=B:=e
   subst e'
   rw[show W.heap[b]?=_ from h] at hb
   cases hb;exact ht rfl⟩
theorem KeepsOthers.of_below {W W':EQ} (h:Below W.heap.size W W'):KeepsOthers W W':=KeepsOthers.of_grownBy (ed h) (fun _ _ e _=>by cases e)
theorem xg {W w1:EQ} {n₀ B1 B2 base:Nat} {v v' u:ER} {k m:Nat} {xs ys:EO} {tmp:Obj}
 (hv:Boxed W B1 29 v) (h2:Boxed W B2 3 u) (hrow:W.ownsRow base 3 1 v k xs) (hn:n₀<=B1) (h1b:B1<base) (h2b:B2<base) (h12:B1≠B2) (hbase:base<=W.heap.size)
 (hown':w1.ownsRow base 3 1 v' m ys) (hgrow:(W.alloc tmp).grownBy w1 v.ownBlock):
 Boxed w1 B1 29 v/\Boxed (w1.setCell ⟨B1,0,none⟩ v') B1 29 v'/\Boxed (w1.setCell ⟨B1,0,none⟩ v') B2 3 u/\(w1.setCell ⟨B1,0,none⟩ v').ownsRow base 3 1 v' m ys/\KeepsOthers W (w1.setCell ⟨B1,0,none⟩ v')/\mx n₀ W (w1.setCell ⟨B1,0,none⟩ v'):=by
 have hne:∀{B:Nat},B<base->some B≠v.ownBlock:=fun hB e=>by have:=aF hrow _ e.symm;omega
 have hne':∀{B:Nat},B<base->some B≠v'.ownBlock:=fun hB e=>by have:=aF hown' _ e.symm;omega
 have hv1:Boxed w1 B1 29 v:=(hv.alloc tmp).kept hgrow (hne h1b)
 have h21:Boxed w1 B2 3 u:=(h2.alloc tmp).kept hgrow (hne h2b)
 have hko:KeepsOthers W w1:=(KeepsOthers.alloc W tmp).trans (KeepsOthers.of_grownBy hgrow fun j o ej hj=>by
  rcases(hrow.alloc tmp).2 with ⟨rfl,_⟩|⟨g,cap,cur,rfl,_,hgb,_⟩
  ·simp[Value.ownBlock] at ej
  ·obtain rfl:g=j:=by simpa[Value.ownBlock] using ej
   rw[hgb] at hj;cases hj;rfl)
 have hkf:mx n₀ W w1:=⟨((Jy n₀ W).alloc (by omega) tmp).grown hgrow (by simp;omega) (fun j ej=>by have:=aF hrow j ej;omega),fun b cs d hb=>by
  have hlt:=(Qq.1 hb).1
  refine(hgrow.block b (by simp;omega) fun e=>?_).trans ((Below.heap_alloc _ _ _ hlt).trans hb)
  rcases hrow.2 with ⟨rfl,_⟩|⟨g,cap,cur,rfl,_,hgb,_⟩
  ·simp[Value.ownBlock] at e
  ·obtain rfl:b=g:=by simpa[Value.ownBlock] using e
   rw[hgb] at hb;cases hb⟩
 exact⟨hv1,hv1.set v',h21.other (Ne.symm h12) _,hown'.kept (grownBy_setCell' w1 B1 v') (.inr (hne' h1b).symm),hko.trans (KeepsOthers.setCell _ _ _),hkf.trans (mx.setCell hv1 hn (by decide) _)⟩
set_option maxRecDepth 100000 in
theorem xV (A:EL) (c:Nat) (fs:List Fd) (hr:aK fs=false) (w:EQ) (hA:Rd w A (aC fs)) (hl:fs.length<=9223372036854775807):
 Calls Tryz.prog 70 #[.slice A fs.length c] w fun e w'=>e=.returned (.tuple #[.slice none 0 0,.int .i64 0])/\Below w.heap.size w w':=by
 have HR:=J0 hr
 clear hr
 go_enter Tryz.func70,Tryz.ntmps70
 go_wp2_with (go_at_call 62;refine(dA _ _ _ _ HR.out _ hA hl).mono ?_;rintro e w1 ⟨rfl,hb1⟩)
 go_ret2
 exact⟨rfl,hb1⟩
set_option maxRecDepth 100000 in
theorem uf (A:EL) (c:Nat) (fs:List Fd) (hr:aK fs=true) (w:EQ) (hA:Rd w A (aC fs)) (hl:fs.length<=9223372036854775807):
 Calls Tryz.prog 70 #[.slice A fs.length c] w fun e w'=>∃v,e=.returned (.tuple #[v,.int .i64 (yZ (dd 0 fs) 8:Nat)])/\w'.ownsRow w.heap.size 3 1 v fs.length (gw ((iC 0 fs).map Prod.fst))/\Below w.heap.size w w':=by
 obtain⟨i0,hi,hz0,hz1,hz2⟩:=info_parts BB
 obtain⟨hmay,h16⟩:=aQ hr
 have hend:=qk (nx:=0) hmay
 have HR:=J0 hr
 clear hr
 rw[<-callsIn_wide (n:=3)]
 refine callsIn_of_wp_marks Tryz.func70 rfl trivial ?_ rfl
 simp only[Tryz.ntmps70,List.size_toArray,Xq,List.length_nil,Nat.reduceAdd,Nat.reduceSub,Array.replicate_succ,Array.replicate_zero,List.push_toArray,List.append_toArray,List.nil_append,List.cons_append]
 gi_wp2_with (first
  |(refine⟨trivial,?_⟩;gi_at_call 62;refine(callsIn_wide.2 (dA _ _ _ _ HR.out _ hA hl)).mono ?_;rintro e w1 ⟨rfl,hb1⟩)
  |(refine⟨trivial,?_⟩;gi_at_call 104;refine(callsIn_wide.2 (callsIn_wide.1 (rG A fs.length c _))).mono ?_;rintro e w2 ⟨rfl,rfl⟩))
 have b1:=((Boxed.new w1 29 (.slice none 0 0)).alloc (.cells #[.int .i64 0] 3)).alloc (.cells #[.slice A fs.length c] 27)
 have b2:=(Boxed.new (w1.alloc (.cells #[.slice none 0 0] 29)) 3 (.int .i64 0)).alloc (.cells #[.slice A fs.length c] 27)
 have b3:=Boxed.new ((w1.alloc (.cells #[.slice none 0 0] 29)).alloc (.cells #[.int .i64 0] 3)) 27 (.slice A fs.length c)
 simp only[Jq] at b2 b3
 have hB0:Below w.heap.size w (((w1.alloc (.cells #[.slice none 0 0] 29)).alloc (.cells #[.int .i64 0] 3)).alloc (.cells #[.slice A fs.length c] 27)):=((hb1.alloc hb1.size _).alloc (by have:=hb1.size;simp;omega) _).alloc (by have:=hb1.size;simp;omega) _
 have hsz:(((w1.alloc (.cells #[.slice none 0 0] 29)).alloc (.cells #[.int .i64 0] 3)).alloc (.cells #[.slice A fs.length c] 27)).heap.size=w1.heap.size+3:=by simp
 have hsw:=hb1.size
 obtain⟨W0,hW0⟩:∃W0,((w1.alloc (.cells #[.slice none 0 0] 29)).alloc (.cells #[.int .i64 0] 3)).alloc (.cells #[.slice A fs.length c] 27)=W0:=⟨_,rfl⟩
 rw[hW0] at b1 b2 b3 hB0 hsz |-
 clear hW0
 refine wpIn_rangeFunc_ownH rfl (by decide) (gf:=156) (lb:=#[.pointer (some ⟨w1.heap.size+1+1,0,none⟩)]) rfl trivial (enters_of Tryz.func156 (by kernel_rfl) rfl)
  (rH 2 (by decide) (w1.heap.size+1+1) A c fs hmay h16 w W0 hA hB0 b3.cell) mx.trans (mx.putObj (by omega)) (Jy _ _) (fun _=>rfl)
  (fun pre W=>((∃v,Boxed W w1.heap.size 29 v/\W.ownsRow W0.heap.size 3 1 v pre.length (gw (pre.map fun x=>x.1.1))/\True)/\Boxed W (w1.heap.size+1) 3 (.int .i64 (wZ pre:Nat)))/\Below w.heap.size w W)
  (fun _ _ _=>False)
  (OwnFrom.and (OwnFrom.and (Own.from (holdsRow_own W0.heap.size w1.heap.size 29 3 1 (fun pre:List PF=>pre.length) (fun pre=>gw (pre.map fun x=>x.1.1)) (fun _ _=>True)) _) (Own.from (boxed_own _ _ _) _)) (ownFrom_below (J9 _) (by omega)))
  (fun _ _ _ _ _ hs _ _=>hs)
  ⟨⟨⟨_,b1,ai _ _ _ _,trivial⟩,b2⟩,hB0⟩
  (fun x a' W=>∃Bx,W.heap[Bx]?=some (.cells #[.string x.1.2.s,.int .i64 x.1.2.k,.int .i64 x.1.2.l] 68 (0,0))/\a'={ tmps:=#[.slice A fs.length c,undef,.slice none 0 0,.int .i64 0,.pointer (some ⟨w1.heap.size,0,none⟩),.pointer (some ⟨w1.heap.size+1,0,none⟩),.int .i64 (x.1.1:Int),.pointer (some ⟨Bx,0,none⟩),.slice A fs.length c,.bool true,.bool false,.slice A fs.length c,.func (.func 156) #[] #[.pointer (some ⟨w1.heap.size+1+1,0,none⟩)],.int .i64 (x.1.1:Int),.agg #[.string x.1.2.s,.int .i64 x.1.2.k,.int .i64 x.1.2.l],undef,undef,undef,undef,undef,undef,undef,undef,undef,undef,undef],defers:=[] })
  (fun x a' _ X Y row hs hg hr=>by
    obtain⟨Bx,h1,h2⟩:=hs
    exact⟨Bx,(hg.block Bx (Qq.1 h1).1 (fun e=>by obtain⟨_,o,ho,hc⟩:=hr Bx e.symm;rw[h1] at ho;cases ho;cases hc)).trans h1,h2⟩)
  ?assign ?body ?done ?stop
 case assign=>
  rintro l pre x W K ⟨⟨⟨v,hv,hrow,_⟩,hb2⟩,hB1⟩ hK
  dsimp only[tG]
  gi_wp2
  exact hK _ _ ((KeepsOthers.alloc _ _).from _) (mx.alloc hB1.size _) ⟨⟨⟨v,hv.alloc _,hrow.alloc _,trivial⟩,hb2.alloc _⟩,hB1.alloc hB1.size _⟩ ⟨W.heap.size,Y7 W _,rfl⟩
 case body=>
  rintro l pre x a' W hl ⟨r,hr⟩ ⟨⟨⟨v,hv,hrow,_⟩,h2⟩,hB⟩ ⟨Bx,hX,rfl⟩ hlt
  have hc:=hv.cell
  have hx1:=x.2
  have hx2:=Fd.n_le x.1.2
  have HL:=J0 (Fd.n_eq x.1.2).symm
  have hsW:=hB.size
  have hb2lt:=h2.lt
  have hrsz:W0.heap.size<=W.heap.size:=by
   have:=(Qq.1 hr).1
   omega
  gi_wp2_with (first
   |(gi_at_builtin;refine wpListIn_append_own _ rfl _ _ 29 rfl W0.heap.size 3 i0 (.int .i64 0) 1 8 Tryz.underlying29 hi hz0 hz1 hz2 rfl (by decide) _ _ _ rfl (hrow.alloc _) ⟨W.heap.size,0,none⟩ 1 1 [.int .i64 (x.1.1:Int)] rfl rfl (cell_one_new _ _ _) (by simp[Value.oneCell']) (by unfold maxLen;omega) (by omega) (by simp;omega) ?_;intro v' w2 hown' hgrow _;obtain⟨g',cap',rfl⟩:=ownsRow_succ hown';obtain⟨hv1,hv2,h22,hr2,hk2,hf2⟩:=xg (n₀:=w.heap.size) hv h2 hrow (by omega) (by omega) (by omega) (by omega) hrsz hown' hgrow;have hc1:=hv1.cell;have hf1:=hv1.frozen;obtain⟨x0,x1,x2⟩:=cG.of (hf2.fld _ _ _ hX))
   |(refine⟨trivial,?_⟩;gi_at_call 89;refine(CallsIn.inRound l (callsIn_wide.2 (eX _ _ _ _ HL.out _))).mono ?_;rintro e w3 ⟨rfl,hb3⟩;have hv3:=lp hv2 hb3;have h23:=lp h22 hb3;have hr3:=aG hr2 hb3;have hc3:=h23.cell;have hf3:=h23.frozen))
  have hz2:=hf2.below.size
  have hz3:=hb3.size
  have hk3:=hk2.trans (KeepsOthers.of_below hb3)
  have hf3':=hf2.trans (mx.of_below hb3 (Q7 hsW hz2))
  have hkp:=hf3'.trans (mx.setCell h23 (n₀:=w.heap.size) (by omega) (by decide) (.int .i64 ((x.1.1:Int)+(x.1.2.n:Int))))
  refine⟨(hk3.trans (KeepsOthers.setCell _ _ _)).from _,hkp,⟨⟨⟨_,hv3.other (by omega) _,?_,trivial⟩,?_⟩,hB.trans hkp.below⟩⟩
  ·have e:gw ((pre++[x]).map fun x=>x.1.1)=gw (pre.map fun x=>x.1.1)++[.int .i64 (x.1.1:Int)]:=by simp[gw]
   rw[e,Vq]
   exact hr3.kept (grownBy_setCell' _ _ _) (.inr fun e=>by have:=aF hr3 _ e;omega)
  ·rw[nZ]
   exact h23.set _
 case done=>
  rintro D ys W hD hys ⟨⟨⟨v,hv,hrow,_⟩,h2⟩,hB⟩ hK
  have hlast:=xu ys fs hys
  have hyl:ys.length=fs.length:=by
   have:=congrArg List.length hys
   rwa [Kz,gZ] at this
  have hyv:ys.map (fun x=>x.1.1)=(iC 0 fs).map Prod.fst:=by rw[<-hys,List.map_map];rfl
  rw[hyv,hyl] at hrow
  rw[hlast] at h2
  have hc:=hv.cell
  have hc2:=h2.cell
  clear hlast hyl hyv hys
  gi_wp2
  rw[wpIn_wide]
  refine RW.start (fun w'=>Below w.heap.size w w'/\w'.cell? ⟨w1.heap.size,0,none⟩=some v/\w'.cell? ⟨w1.heap.size+1,0,none⟩=some (.int .i64 (dd 0 fs:Nat))/\w'.ownsRow W0.heap.size 3 1 v fs.length (gw ((iC 0 fs).map Prod.fst))/\w'.heap[D]?=some (.deferred (some []))) (by kernel_rfl) (by kernel_rfl) ⟨hB.drew,hc,hc2,hrow,hK⟩ ?_
  clear hB hc hc2 hrow hK hv h2
  repeat (first
   |(refine' RW.val (by rfl) ?_ ?_;rotate_left;(focus (intro w' hS;obtain⟨HB,hc,hc2,hrow,hK⟩:=hS;go_simp;rfl));simp only[Act.put,J1,J3,J2])
   |(refine RW.off (by rfl) ?_;simp only[Act.put,J1,J3,J2])
   |(refine' RW.call (by rfl) ?_ ?_ ?_
     rotate_left 3
     (focus (intro w' hS;obtain⟨HB,hc,hc2,hrow,hK⟩:=hS;go_simp;exact⟨rfl,rfl⟩))
     (focus
       intro w' hS
       obtain⟨HB,hc,hc2,hrow,hK⟩:=hS
       first
        |(refine(uO (dd 0 fs) 8 (by omega) (by omega) _).mono ?_;rintro e w1 ⟨rfl,rfl⟩;exact⟨rfl,HB,hc,hc2,hrow,hK⟩))
     simp only[Act.put,J1,J3,J2]))
  refine RW.done (fun w' hS=>?_)
  obtain⟨HB,hc,hc2,hrow,hK⟩:=hS
  gi_wp2
  refine⟨by simp,.inl ⟨_,_,rfl,run_takeDeferred hK,?_⟩⟩
  have hD2:w.heap.size<=D:=by omega
  exact⟨_,results_tmp2 rfl _ _ _,v,rfl,hQ (ownsRow_putObj hrow _ hK rfl) (by omega),HB.trans (belowK_b (w:=w) (J9 _) _ D _ _ hD2 hK rfl rfl)⟩
 case stop=>
  rintro D c' pre W _ _ h _
  exact h.elim
theorem kQ (A:EL) (c:Nat) (fs:List Fd) (w:EQ) (hA:Rd w A (aC fs)) (hl:fs.length<=9223372036854775807):
 Calls Tryz.prog 70 #[.slice A fs.length c] w fun e w'=>∃v,e=.returned (.tuple #[v,.int .i64 (bP fs:Nat)])/\w'.ownsRow w.heap.size 3 1 v (fT fs).length (gw (fT fs))/\Below w.heap.size w w':=by
 cases hr:aK fs
 ·refine(xV A c fs hr w hA hl).mono ?_
  rintro e w' ⟨rfl,hb⟩
  have e1:fT fs=[]:=by simp[fT,hr]
  have e2:bP fs=0:=by simp[bP,hr]
  rw[e1,e2]
  exact⟨_,rfl,ai _ _ _ _,hb⟩
 ·refine(uf A c fs hr w hA hl).mono ?_
  rintro e w' ⟨v,rfl,ho,hb⟩
  have e1:fT fs=(iC 0 fs).map Prod.fst:=by simp[fT,hr]
  have e2:bP fs=yZ (dd 0 fs) 8:=by simp[bP,hr]
  rw[e1,e2,Kz,gZ]
  exact⟨_,rfl,ho,hb⟩
attribute [local go_sem] Oper.semAt_some
theorem oV (fs:List Fd):bP fs<=4096:=by
 unfold bP
 split
 ·rename_i h
  obtain⟨hm,hl⟩:=aQ h
  have:=qk (nx:=0) hm
  have:=vt (dd 0 fs) 8 (by omega)
  omega
 ·omega
theorem xX (A:EL) (c:Nat) (fs:List Fd) (w:EQ) (hA:Rd w A (aC fs)) (hl:fs.length<=9223372036854775807):
 Calls Tryz.prog 73 #[.slice A fs.length c] w fun e w'=>∃v,e=.returned v/\sN w' v (List.replicate (bP fs) 0)/\Below w.heap.size w w':=by
 have hz:=oV fs
 have hmk:=kC (bP fs) (by omega)
 go_enter Tryz.func73,Tryz.ntmps73
 go_wp2_with (go_at_call 70;refine(kQ A c fs _ hA hl).mono ?_;rintro e w1 ⟨v,rfl,ho,hb1⟩)
 go_ret
 exact⟨_,rfl,⟨some ⟨w1.heap.size,0,none⟩,bP fs,by simp,by simp,gh _ _ _⟩,hb1.alloc hb1.size _⟩
def Fd.z:Fd:=⟨⟨#[]⟩,0,0⟩
theorem Rd.int {w:EQ} {A:EL} {l:List Nat} (h:Rd w A (gw l)) {k n:Nat} (hk:l[k]?=some n):∃ad,A=some ad/\w.cell? (ad.add k)=some (.int .i64 n):=by
 have:(gw l)[k]?=some (.int .i64 n):=by simp[gw,hk]
 exact h.at this
theorem gl (A:EL) (c:Nat) (fs:List Fd) (z:Nat) (hz:bP fs=z) (w:EQ) (hA:Rd w A (aC fs)) (hl:fs.length<=9223372036854775807):
 Calls Tryz.prog 70 #[.slice A fs.length c] w fun e w'=>∃B m c',e=.returned (.tuple #[.slice B m c',.int .i64 (z:Nat)])/\m=(fT fs).length/\Rd w' B (gw (fT fs))/\Below w.heap.size w w':=by
 subst hz
 refine(kQ A c fs w hA hl).mono ?_
 rintro e w' ⟨v,rfl,ho,hb⟩
 obtain⟨B,c',rfl,_,_,hr⟩:=aL ho
 exact⟨B,_,c',rfl,rfl,hr,hb⟩
def aD (w:EQ) (b:Nat) (cs:EO) (T:ES):Prop:=w.heap[b]?=some (.cells cs.toArray T (0,0))
theorem aD.new (w:EQ) (cs:EO) (T:ES):aD (w.alloc (.cells cs.toArray T)) w.heap.size cs T:=Y7 w _
theorem aD.lt {w:EQ} {b:Nat} {cs:EO} {T:ES} (h:aD w b cs T):b<w.heap.size:=(Qq.1 h).1
theorem aD.below {w w1:EQ} {b:Nat} {cs:EO} {T:ES} (h:aD w b cs T) (hb:Below w.heap.size w w1):aD w1 b cs T:=(hb.block b h.lt).trans h
theorem aD.cell {w:EQ} {b:Nat} {cs:EO} {T:ES} (h:aD w b cs T) {j:Nat} {v:ER} (hj:cs[j]?=some v):w.cell? ⟨b,j,none⟩=some v:=by
 simp[World.cell?,show w.heap[b]?=_ from h,hj]
theorem aD.frz {w:EQ} {b:Nat} {cs:EO} {T:ES} (h:aD w b cs T) (j:Nat):w.frozen? ⟨b,j,none⟩=false:=by
 simp[World.frozen?,show w.heap[b]?=_ from h]
theorem aD.f3 {w:EQ} {b:Nat} {x y z:ER} {T:ES} (h:aD w b [x,y,z] T):w.cell? ⟨b,0,none⟩=some x/\w.cell? ⟨b,1,none⟩=some y/\w.cell? ⟨b,2,none⟩=some z/\w.frozen? ⟨b,0,none⟩=false/\w.frozen? ⟨b,1,none⟩=false/\w.frozen? ⟨b,2,none⟩=false:=
 ⟨h.cell rfl,h.cell rfl,h.cell rfl,h.frz 0,h.frz 1,h.frz 2⟩
theorem aD.f1 {w:EQ} {b:Nat} {x:ER} {T:ES} (h:aD w b [x] T):w.cell? ⟨b,0,none⟩=some x/\w.frozen? ⟨b,0,none⟩=false:=⟨h.cell rfl,h.frz 0⟩
theorem vR (Ab:EL) (nb cb:Nat) (A:EL) (c:Nat) (fs:List Fd) (nm:EP) (w:EQ) (hA:Rd w A (aC fs)) (hl:fs.length<=9223372036854775807) (h:aK fs=false\/¬nb=bP fs):
 Calls Tryz.prog 106 #[.slice Ab nb cb,.slice A fs.length c,.string nm] w fun e w'=>e=.returned (.tuple #[.int .i64 0,.agg #[.string ⟨#[]⟩,.int .i64 0,.int .i64 0],.int .i64 60])/\Below w.heap.size w w':=by
 obtain⟨z,hz⟩:∃z,bP fs=z:=⟨_,rfl⟩
 obtain⟨r,hr⟩:∃r,aK fs=r:=⟨_,rfl⟩
 rw[hz,hr] at h
 have HZ:=J0 hz
 have HR:=J0 hr
 clear hz hr
 cases r
 ·clear h
  go_enter Tryz.func106,Tryz.ntmps106
  go_wp2_with (first
   |(go_at_call 70;refine(gl A c fs z HZ.out _ (hA.below (aA _)) hl).mono ?_;rintro e w1 ⟨B,m,c',rfl,hm,hr,hb1⟩;have hA1:=(hA.below (aA _)).below hb1)
   |(go_at_call 62;refine(dA A c fs _ HR.out _ hA1 hl).mono ?_;rintro e w2 ⟨rfl,hb2⟩;obtain⟨k0,k1,k2,f0,f1,f2⟩:=(((aD.new w [.string ⟨#[]⟩,.int .i64 0,.int .i64 0] 68).below hb1).below hb2).f3;have HB:=aB (aB (aA _) hb1) hb2))
  refine Xx (v:=.tuple #[.int .i64 0,.agg #[.string ⟨#[]⟩,.int .i64 0,.int .i64 0],.int .i64 60]) (by simp[results,Tryz.results106,go_sem, *];done) rfl ⟨rfl,?_⟩
  (repeat (first|exact HB|refine J8 ?_ (by dsimp only;omega) _|refine Jk ?_ (by have:=HB.size;(try simp) <;> omega) _|apply Jv))
 ·have hne:((nb:Int) != (z:Int))=true:=by simp at h;simp;omega
  clear h
  go_enter Tryz.func106,Tryz.ntmps106
  go_wp2_with (first
   |(go_at_call 70;refine(gl A c fs z HZ.out _ (hA.below (aA _)) hl).mono ?_;rintro e w1 ⟨B,m,c',rfl,hm,hr,hb1⟩;have hA1:=(hA.below (aA _)).below hb1)
   |(go_at_call 62;refine(dA A c fs _ HR.out _ hA1 hl).mono ?_;rintro e w2 ⟨rfl,hb2⟩;obtain⟨k0,k1,k2,f0,f1,f2⟩:=(((aD.new w [.string ⟨#[]⟩,.int .i64 0,.int .i64 0] 68).below hb1).below hb2).f3;have HB:=aB (aB (aA _) hb1) hb2))
  refine Xx (v:=.tuple #[.int .i64 0,.agg #[.string ⟨#[]⟩,.int .i64 0,.int .i64 0],.int .i64 60]) (by simp[results,Tryz.results106,go_sem, *];done) rfl ⟨rfl,?_⟩
  (repeat (first|exact HB|refine J8 ?_ (by dsimp only;omega) _|refine Jk ?_ (by have:=HB.size;(try simp) <;> omega) _|apply Jv))
theorem vS (Ab:EL) (nb cb:Nat) (A:EL) (c:Nat) (fs:List Fd) (nm:EP) (w:EQ) (hA:Rd w A (aC fs)) (hl:fs.length<=9223372036854775807) (h:aK fs=true) (hn:nb=bP fs) (hk:aW fs nm<0):
 Calls Tryz.prog 106 #[.slice Ab nb cb,.slice A fs.length c,.string nm] w fun e w'=>e=.returned (.tuple #[.int .i64 0,.agg #[.string ⟨#[]⟩,.int .i64 0,.int .i64 0],.int .i64 61])/\Below w.heap.size w w':=by
 have HZ:=J0 hn.symm
 have HR:=J0 h
 obtain⟨k,hkz⟩:∃k,aW fs nm=k:=⟨_,rfl⟩
 rw[hkz] at hk
 have HK:=J0 hkz
 have hd:decide (k<0)=true:=by simpa using hk
 clear h hn hkz
 go_enter Tryz.func106,Tryz.ntmps106
 go_wp2_with (first
  |(go_at_call 70;refine(gl A c fs nb HZ.out _ (hA.below (aA _)) hl).mono ?_;rintro e w1 ⟨B,m,c',rfl,hm,hr,hb1⟩;have hA1:=(hA.below (aA _)).below hb1)
  |(go_at_call 62;refine(dA A c fs _ HR.out _ hA1 hl).mono ?_;rintro e w2 ⟨rfl,hb2⟩;have hA2:=hA1.below hb2)
  |(go_at_call 96;refine(kO A c fs _ _ HK.out _ hA2 hl).mono ?_;rintro e w3 ⟨rfl,hb3⟩;obtain⟨k0,k1,k2,f0,f1,f2⟩:=((((aD.new w [.string ⟨#[]⟩,.int .i64 0,.int .i64 0] 68).below hb1).below hb2).below hb3).f3;have HB:=aB (aB (aB (aA _) hb1) hb2) hb3))
 refine Xx (v:=.tuple #[.int .i64 0,.agg #[.string ⟨#[]⟩,.int .i64 0,.int .i64 0],.int .i64 61]) (by simp[results,Tryz.results106,go_sem, *];done) rfl ⟨rfl,?_⟩
 (repeat (first|exact HB|refine J8 ?_ (by dsimp only;omega) _|refine Jk ?_ (by have:=HB.size;(try simp) <;> omega) _|apply Jv))
theorem Ap (Ab:EL) (nb cb:Nat) (A:EL) (c:Nat) (fs:List Fd) (nm:EP) (w:EQ) (hA:Rd w A (aC fs)) (hl:fs.length<=9223372036854775807) (h:aK fs=true) (hn:nb=bP fs) (k:Nat) (f:Fd) (at_:Nat) (hk:aW fs nm=k) (hf:fs[k]?=some f) (hat:(fT fs)[k]?=some at_):
 Calls Tryz.prog 106 #[.slice Ab nb cb,.slice A fs.length c,.string nm] w fun e w'=>e=.returned (.tuple #[.int .i64 at_,.agg #[.string f.s,.int .i64 f.k,.int .i64 f.l],.int .i64 0])/\Below w.heap.size w w':=by
 have HZ:=J0 hn.symm
 have HR:=J0 h
 have HK:=J0 hk
 have HF:=J0 hf
 have HT:=J0 hat
 have hk1:=(J6.1 hf).1
 have hk2:=(J6.1 hat).1
 clear h hn hk hf hat
 go_enter Tryz.func106,Tryz.ntmps106
 go_wp2_with (first
  |(go_at_call 70;refine(gl A c fs nb HZ.out _ (hA.below (aA _)) hl).mono ?_;rintro e w1 ⟨B,m,c',rfl,hm,hr,hb1⟩;have hA1:=(hA.below (aA _)).below hb1)
  |(go_at_call 62;refine(dA A c fs _ HR.out _ hA1 hl).mono ?_;rintro e w2 ⟨rfl,hb2⟩;have hA2:=hA1.below hb2)
  |(go_at_call 96;refine(kO A c fs _ _ HK.out _ hA2 hl).mono ?_;rintro e w3 ⟨rfl,hb3⟩;obtain⟨k0,k1,k2,f0,f1,f2⟩:=((((aD.new w [.string ⟨#[]⟩,.int .i64 0,.int .i64 0] 68).below hb1).below hb2).below hb3).f3;have HB:=aB (aB (aB (aA _) hb1) hb2) hb3;obtain⟨ad,rfl,g0,g1,g2⟩:=(hA2.below hb3).fld HF.out;obtain⟨bd,rfl,g3⟩:=((hr.below hb2).below hb3).int HT.out))
 have hlt1:(k:Int)<((fT fs).length:Int):=by omega
 have hlt2:(k:Int)<(fs.length:Int):=by omega
 clear HZ HR HK HF HT
 go_region
 all_goals go_wp2
 all_goals refine Xx (v:=.tuple #[.int .i64 at_,.agg #[.string f.s,.int .i64 f.k,.int .i64 f.l],.int .i64 0]) (by simp[results,Tryz.results106,go_sem, *];done) rfl ⟨rfl,?_⟩
 all_goals (repeat (first|exact HB|refine J8 ?_ (by dsimp only;omega) _|refine Jk ?_ (by have:=HB.size;(try simp) <;> omega) _|apply Jv))
def gC (fs:List Fd) (len:Nat) (nm:EP):Int ⊕ (Nat×Fd):=
 if aK fs && decide (len=bP fs) then(if aW fs nm<0 then .inl 61 else .inr ((fT fs).getD (aW fs nm).toNat 0,fs.getD (aW fs nm).toNat Fd.z)) else .inl 60
theorem mF {fs:List Fd} (h:aK fs=true):(fT fs).length=fs.length:=by rw[fT,Xz h,Kz,gZ]
theorem qr {fs:List Fd} {len:Nat} {nm:EP} {q:Int} (h:gC fs len nm=.inl q):(q=60/\(aK fs=false\/¬len=bP fs))\/(q=61/\aK fs=true/\len=bP fs/\aW fs nm<0):=by
 unfold gC at h
 split at h
 ·rename_i hr
  simp only[Qz,Y8] at hr
  split at h
  ·cases h;exact .inr ⟨rfl,hr.1,hr.2,by assumption⟩
  ·cases h
 ·rename_i hr
  cases h
  refine .inl ⟨rfl,?_⟩
  cases h2:aK fs
  ·exact .inl rfl
  ·exact .inr fun e=>hr (by rw[h2,Yx e];rfl)
theorem zl {fs:List Fd} {len:Nat} {nm:EP} {at_:Nat} {f:Fd} (h:gC fs len nm=.inr (at_,f)):aK fs=true/\len=bP fs/\∃k:Nat,aW fs nm=k/\fs[k]?=some f/\(fT fs)[k]?=some at_:=by
 unfold gC at h
 split at h
 ·rename_i hr
  simp only[Qz,Y8] at hr
  split at h
  ·cases h
  ·rename_i hk
   have hb:=eE fs nm
   have h1:(aW fs nm).toNat<fs.length:=by omega
   have h2:(aW fs nm).toNat<(fT fs).length:=by rw[mF hr.1];exact h1
   cases h
   refine⟨hr.1,hr.2,(aW fs nm).toNat,by omega,?_,?_⟩
   ·rw[Yy,J4 h1];rfl
   ·rw[Yy,J4 h2];rfl
 ·cases h
theorem mB (nx:Nat) (a b:List Fd):dd nx (a++b)=dd (dd nx a) b:=by
 induction a generalizing nx with
 |nil=>rfl
 |cons g r ih=>exact ih _
theorem wR {nx:Nat} {fs:List Fd} (h:oy fs):nx<=dd nx fs:=by
 induction fs generalizing nx with
 |nil=>simp[dd]
 |cons g r ih=>
  have h1:=qY (nx:=nx) (h g (List.mem_cons_self ..))
  have h3:=ih (nx:=rl nx g+g.n) (fun f hf=>h f (List.mem_cons_of_mem _ hf))
  rw[dd];omega
theorem oS {fs:List Fd} {k:Nat} {f:Fd} (nx:Nat) (hf:fs[k]?=some f):(iC nx fs)[k]?=some (rl (dd nx (fs.take k)) f,f):=by
 induction fs generalizing nx k with
 |nil=>simp at hf
 |cons g r ih=>
  cases k with
  |zero=>simp at hf;subst hf;rfl
  |succ k=>
   have:=ih (rl nx g+g.n) (k:=k) (by simpa using hf)
   simpa[iC,dd] using this
theorem BJ {fs:List Fd} (hm:oy fs) {k:Nat} {f:Fd} (hf:fs[k]?=some f):rl (dd 0 (fs.take k)) f+f.n<=dd 0 fs:=by
 obtain⟨_,e2⟩:=lS hf
 rw[<-e2]
 have e:fs=fs.take (k+1)++fs.drop (k+1):=(List.take_append_drop _ _).symm
 conv=>rhs;rw[e,mB]
 exact wR fun g hg=>hm g (List.mem_of_mem_drop hg)
theorem qs {fs:List Fd} {len:Nat} {nm:EP} {at_:Nat} {f:Fd} (h:gC fs len nm=.inr (at_,f)):bW f.k f.l=true/\at_+f.n<=len/\len<=4096/\0<f.n:=by
 obtain⟨hr,hl,k,hk,hf,hat⟩:=zl h
 obtain⟨hm,_⟩:=aQ hr
 have hmf:=hm f (J7 hf)
 refine⟨hmf,?_,by have:=oV fs;omega,Fd.n_pos hmf⟩
 rw[fT,Xz hr,Kv,oS 0 hf] at hat
 simp at hat
 have h1:=BJ hm hf
 have h2:=vt (dd 0 fs) 8 (by omega)
 rw[hl,bP,Xz hr]
 omega
theorem qF (Ab:EL) (nb cb:Nat) (A:EL) (c:Nat) (fs:List Fd) (nm:EP) (q:Int) (h:gC fs nb nm=.inl q) (w:EQ) (hA:Rd w A (aC fs)) (hl:fs.length<=9223372036854775807):
 Calls Tryz.prog 106 #[.slice Ab nb cb,.slice A fs.length c,.string nm] w fun e w'=>e=.returned (.tuple #[.int .i64 0,.agg #[.string ⟨#[]⟩,.int .i64 0,.int .i64 0],.int .i64 q])/\Below w.heap.size w w':=by
 rcases qr h with ⟨rfl,h0⟩|⟨rfl,h1,h2,h3⟩
 ·exact vR Ab nb cb A c fs nm w hA hl h0
 ·exact vS Ab nb cb A c fs nm w hA hl h1 h2 h3
theorem oD (Ab:EL) (nb cb:Nat) (A:EL) (c:Nat) (fs:List Fd) (nm:EP) (at_:Nat) (f:Fd) (h:gC fs nb nm=.inr (at_,f)) (w:EQ) (hA:Rd w A (aC fs)) (hl:fs.length<=9223372036854775807):
 Calls Tryz.prog 106 #[.slice Ab nb cb,.slice A fs.length c,.string nm] w fun e w'=>e=.returned (.tuple #[.int .i64 at_,.agg #[.string f.s,.int .i64 f.k,.int .i64 f.l],.int .i64 0])/\Below w.heap.size w w':=by
 obtain⟨hr,hn,k,hk,hf,hat⟩:=zl h
 exact Ap Ab nb cb A c fs nm w hA hl hr hn k f at_ hk hf hat
structure Vl where
 k:Int
 b:Int
 t:EP
def Vl.v (x:Vl):ER:=.agg #[.int .i64 x.k,.int .u64 x.b,.string x.t]
def Vl.z:Vl:=⟨0,0,⟨#[]⟩⟩
def gu (l:EN) (f:Fd):Vl:=if fZ l f.k f.l=true then⟨f.k,gA l f.k f.l,eZ l f.k⟩ else Vl.z
theorem vA (l:EN) (f:Fd):jy l f.k f.l=(gu l f).v:=by
 unfold gu
 cases h:fZ l f.k f.l
 ·rw[(iK h).1];rfl
 ·rw[(kT h).1];rfl
def fR (b:EN) (fs:List Fd) (nm:EP):Vl:=match gC fs b.length nm with
 |.inl _=>Vl.z
 |.inr (at_,f)=>gu ((b.drop at_).take f.n) f
def fc (b:EN) (fs:List Fd) (nm:EP):Int:=match gC fs b.length nm with
 |.inl q=>q
 |.inr (at_,f)=>dq ((b.drop at_).take f.n) f.k f.l
theorem pT (A:EL) (c m:Nat) (l:EN) (s:EP) (k long:Int) (v:Vl) (q:Int) (w:EQ) (hA:Rd w A (aH l)) (hm:l.length=m) (hl:m<=9223372036854775807) (hv:jy l k long=v.v) (hq:dq l k long=q):
 Calls Tryz.prog 88 #[.slice A m c,.agg #[.string s,.int .i64 k,.int .i64 long]] w fun e w'=>e=.returned (.tuple #[.agg #[.int .i64 v.k,.int .u64 v.b,.string v.t],.int .i64 q])/\Below w.heap.size w w':=by
 subst hq hm
 have:=qQ A c l s k long w hA hl
 rw[hv] at this
 exact this
theorem Rd.slice {w:EQ} {ad:Addr} {l:EN} (h:Rd w (some ad) (aH l)) (i n:Nat):Rd w (some (ad.add i)) (aH ((l.drop i).take n)):=fun hne=>by
 obtain⟨ad',e,hc⟩:=h (by rintro e;simp[aH] at e;subst e;simp[aH] at hne)
 cases e
 refine⟨_,rfl,fun j u hj=>?_⟩
 rw[Addr.add_add]
 apply hc
 simp only[aH,Kv,X7,List.getElem?_drop] at hj |-
 split at hj
 ·exact hj
 ·simp at hj
theorem Rd.some_of {w:EQ} {A:EL} {cs:EO} (h:Rd w A cs) (hne:cs≠[]):∃ad,A=some ad:=by
 obtain⟨ad,e,_⟩:=h hne;exact⟨ad,e⟩
theorem AZ (Ab:EL) (cb:Nat) (b:EN) (A:EL) (c:Nat) (fs:List Fd) (nm:EP) (q:Int) (h:gC fs b.length nm=.inl q) (w:EQ) (hA:Rd w A (aC fs)) (hl:fs.length<=9223372036854775807):
 Calls Tryz.prog 71 #[.slice Ab b.length cb,.slice A fs.length c,.string nm] w fun e w'=>e=.returned (.tuple #[.agg #[.int .i64 0,.int .u64 0,.string ⟨#[]⟩],.int .i64 q])/\Below w.heap.size w w':=by
 have hq:(q != 0)=true:=by rcases qr h with ⟨rfl,_⟩|⟨rfl,_⟩ <;> rfl
 have H:=J0 h
 clear h
 go_enter Tryz.func71,Tryz.ntmps71
 go_wp2_with (go_at_call 106;refine(qF Ab b.length cb A c fs nm q H.out _ (hA.below (aA _)) hl).mono ?_;rintro e w1 ⟨rfl,hb1⟩;obtain⟨k0,k1,k2,f0,f1,f2⟩:=((aD.new w [.int .i64 0,.int .u64 0,.string ⟨#[]⟩] 71).below hb1).f3;have HB:=aB (aA _) hb1;have hz1:w.heap.size<w1.heap.size:=(by have:=hb1.size;simp at this;omega))
 refine Xx (v:=.tuple #[.agg #[.int .i64 0,.int .u64 0,.string ⟨#[]⟩],.int .i64 q]) (by simp[results,Tryz.results71,go_sem, *];done) rfl ⟨rfl,?_⟩
 (repeat (first|exact HB|refine J8 ?_ (by dsimp only;omega) _|refine Jk ?_ (by have:=HB.size;(try simp) <;> omega) _|apply Jv))
theorem CP (Ab:EL) (cb:Nat) (b:EN) (A:EL) (c:Nat) (fs:List Fd) (nm:EP) (at_:Nat) (f:Fd) (h:gC fs b.length nm=.inr (at_,f)) (w:EQ) (hA:Rd w A (aC fs)) (hl:fs.length<=9223372036854775807) (hb:Rd w Ab (aH b)) (hcb:b.length<=cb):
 Calls Tryz.prog 71 #[.slice Ab b.length cb,.slice A fs.length c,.string nm] w fun e w'=>e=.returned (.tuple #[(gu ((b.drop at_).take f.n) f).v,.int .i64 (dq ((b.drop at_).take f.n) f.k f.l)])/\Below w.heap.size w w':=by
 obtain⟨hm,hin,hlen,hn⟩:=qs h
 have hn2:=f.n_le
 obtain⟨bd,rfl⟩:=hb.some_of (by simp[aH];intro e;subst e;simp at hin;omega)
 have hdl:((b.drop at_).take f.n).length=f.n:=by rw[Qx,List.length_drop];omega
 obtain⟨dv,hdv⟩:∃x,gu ((b.drop at_).take f.n) f=x:=⟨_,rfl⟩
 obtain⟨de,hde⟩:∃x,dq ((b.drop at_).take f.n) f.k f.l=x:=⟨_,rfl⟩
 rw[hdv,hde]
 have HDV:=J0 ((vA _ f).trans (congrArg Vl.v hdv))
 have HDE:=J0 hde
 have HDL:=J0 hdl
 have HN:=J0 f.n_eq.symm
 have H:=J0 h
 clear h hdv hde hdl
 go_enter Tryz.func71,Tryz.ntmps71
 go_wp2_with (go_at_call 106;refine(oD (some bd) b.length cb A c fs nm at_ f H.out _ (hA.below (aA _)) hl).mono ?_;rintro e w1 ⟨rfl,hb1⟩;have O1:=((aD.new w [.int .i64 0,.int .u64 0,.string ⟨#[]⟩] 71).below hb1);obtain⟨k0,k1,k2,f0,f1,f2⟩:=O1.f3;have HB:=aB (aA _) hb1;have hz1:w.heap.size<w1.heap.size:=(by have:=hb1.size;simp at this;omega))
 have F0:=cG.new w1 f.s f.k f.l
 have O2:=O1.below (aA (w:=w1) (.cells #[.string f.s,.int .i64 f.k,.int .i64 f.l] 68))
 have hbs:=((hb.slice at_ f.n).below (aA _)).below hb1 |>.below (aA (w:=w1) (.cells #[.string f.s,.int .i64 f.k,.int .i64 f.l] 68))
 have hcut:(at_:Int)+(f.n:Int)<=(cb:Int):=by omega
 have hcut2:(at_:Int)<=(at_:Int)+(f.n:Int):=by omega
 have hcut3:((at_:Int)+(f.n:Int)).toNat=at_+f.n:=by omega
 have hcut4:¬cb=at_:=by omega
 have hlong:f.n<=9223372036854775807:=by omega
 have hcut0:(0:Int)<=(at_:Int)+(f.n:Int):=by omega
 have hcut5:IntKind.i64.wrap ((at_:Int)+(f.n:Int))=(at_:Int)+(f.n:Int):=Xj _ (by omega)
 obtain⟨WX,hWX⟩:∃WX,w1.alloc (.cells #[.string f.s,.int .i64 f.k,.int .i64 f.l] 68)=WX:=⟨_,rfl⟩
 have HB:=HB.alloc (by omega) (.cells #[.string f.s,.int .i64 f.k,.int .i64 f.l] 68)
 have hzx:w1.heap.size<WX.heap.size:=by rw[<-hWX];simp
 rw[hWX] at F0 O2 hbs HB |-
 clear hWX k0 k1 k2 f0 f1 f2 O1 hb1 hb hA
 obtain⟨c0,c1,c2⟩:=F0
 obtain⟨k0,k1,k2,f0,f1,f2⟩:=O2.f3
 have F1:cG WX.drew w1.heap.size f.s f.k f.l:=⟨c0,c1,c2⟩
 have O3:aD WX.drew w.heap.size [.int .i64 0,.int .u64 0,.string ⟨#[]⟩] 71:=O2
 have hbs:Rd WX.drew (some (bd.add at_)) (aH ((b.drop at_).take f.n)):=hbs
 have HB:=HB.drew
 clear H O2
 go_region_with (first
  |(go_at_call 89;refine(eX _ _ _ _ HN.out _).mono ?_;rintro e w2 ⟨rfl,hb2⟩;obtain⟨e0,e1,e2⟩:=F1.below hb2)
  |(go_at_call 88;refine(pT _ _ f.n _ _ _ _ dv de _ (hbs.below hb2) HDL.out hlong HDV.out HDE.out).mono ?_;rintro e w3 ⟨rfl,hb3⟩;obtain⟨l0,l1,l2,m0,m1,m2⟩:=((O3.below hb2).below hb3).f3))
 all_goals go_wp2
 all_goals refine Xx (v:=.tuple #[.agg #[.int .i64 dv.k,.int .u64 dv.b,.string dv.t],.int .i64 de]) (by simp[results,Tryz.results71,go_sem, *];done) rfl ⟨rfl,?_⟩
 all_goals have HB:=aB (aB HB hb2) hb3
 all_goals (repeat (first|exact HB|refine J8 ?_ (by dsimp only;omega) _|refine Jk ?_ (by have:=HB.size;(try simp) <;> omega) _|apply Jv))
theorem xU (Ab:EL) (cb:Nat) (b:EN) (A:EL) (c:Nat) (fs:List Fd) (nm:EP) (w:EQ) (hA:Rd w A (aC fs)) (hl:fs.length<=9223372036854775807) (hb:Rd w Ab (aH b)) (hcb:b.length<=cb):
 Calls Tryz.prog 71 #[.slice Ab b.length cb,.slice A fs.length c,.string nm] w fun e w'=>e=.returned (.tuple #[(fR b fs nm).v,.int .i64 (fc b fs nm)])/\Below w.heap.size w w':=by
 cases h:gC fs b.length nm with
 |inl q=>
  have e1:fR b fs nm=Vl.z:=by simp[fR,h]
  have e2:fc b fs nm=q:=by simp[fc,h]
  rw[e1,e2]
  exact AZ Ab cb b A c fs nm q h w hA hl
 |inr x=>
  obtain⟨at_,f⟩:=x
  have e1:fR b fs nm=gu ((b.drop at_).take f.n) f:=by simp[fR,h]
  have e2:fc b fs nm=dq ((b.drop at_).take f.n) f.k f.l:=by simp[fc,h]
  rw[e1,e2]
  exact CP Ab cb b A c fs nm at_ f h w hA hl hb hcb
theorem lh (A:EL) (c:Nat) (b:EN) (w:EQ) (hA:Rd w A (aH b)) (hl:b.length<=140737488355328):
 Calls Tryz.prog 38 #[.slice A b.length c] w fun e w'=>∃v,e=.returned v/\w'.ownsRow w.heap.size 5 1 v b.length (aH b)/\Below w.heap.size w w':=by
 obtain⟨i0,hi,hz0,hz1,hz2⟩:=info_parts nW
 cases A with
 |none=>
  obtain rfl:b=[]:=by
   cases b with
   |nil=>rfl
   |cons x r=>obtain⟨ad,e,_⟩:=hA (by simp[aH]);cases e
  have heq:∀w:EQ,(binOp .eql 44 (.slice none 0 c) (.slice none 0 0)).run Tryz.prog w=.ok (.bool true) w:=fun w=>Lib.run_eql_slice_nil (P:=Tryz.prog) w 44 5 none 0 c 0 0 Tryz.underlying44
  go_enter Tryz.func38,Tryz.ntmps38
  go_wp2
  go_ret
  exact⟨_,rfl,ai _ _ _ _,Jy _ _⟩
 |some ad=>
  have heq:∀w:EQ,(binOp .eql 44 (.slice (some ad) b.length c) (.slice none 0 0)).run Tryz.prog w=.ok (.bool false) w:=fun w=>Lib.run_eql_slice_nil (P:=Tryz.prog) w 44 5 (some ad) b.length c 0 0 Tryz.underlying44
  have hown:(w.alloc (.cells #[] 5)).ownsRow w.heap.size 5 1 (.slice (some ⟨w.heap.size,0,none⟩) 0 0) 0 []:=⟨rfl,.inr ⟨_,0,#[],rfl,J9 _,Y7 _ _,J9 _,X6 _,rfl,rfl⟩⟩
  have hA2:=hA.below (aA (.cells #[] 5))
  go_enter Tryz.func38,Tryz.ntmps38
  go_wp2_with (at_builtin;refine Y5 _ rfl _ _ 44 rfl w.heap.size 5 i0 (.int .u8 0) 1 1 Tryz.underlying44 hi hz0 hz1 hz2 rfl (by decide) _ _ _ rfl hown ad b.length c (aH b) rfl ?c0 ?c1 ?c2 ?c3 ?c4 ?c5 ?_)
  case c0=>rw[bO];omega
  case c1=>
   intro j u hj
   obtain⟨ad',e,h⟩:=hA2 (by rintro e;rw[e] at hj;simp at hj)
   cases e;exact h j u hj
  case c2=>intro u hu;simp[aH] at hu;obtain⟨x,_,rfl⟩:=hu;rfl
  case c3=>simp only[maxLen];omega
  case c4=>omega
  case c5=>simp
  intro v' w1 hown' hgrow _
  have hB:=(aA (w:=w) (.cells #[] 5)).grown hgrow (by simp) (fun q hq=>aF hown q hq)
  clear hown hgrow
  go_wp2
  go_ret
  exact⟨_,rfl,hown',hB⟩
theorem gS {bits:Int} {tx:EP} {f:Fd} {vk:Int} (h:aM vk bits tx f.k f.l=true):(cR bits tx f.k f.l).length=f.n:=by
 obtain⟨hm,_,ht,_⟩:=bg h
 unfold cR Fd.n
 split
 ·rename_i hk
  rw[Xz hk] at ht
  rw[hk] at hm |-
  rw[iQ hm,aZ];omega
 ·rw[aX]
def gy (b:EN) (i:Nat) (x:EN):EN:=b.take i++x++b.drop (i+x.length)
theorem iU {b:EN} {i:Nat} {x:EN} (h:i+x.length<=b.length):(gy b i x).length=b.length:=by simp[gy];omega
def fq (b:EN) (fs:List Fd) (nm:EP) (v:Vl):EN:=match gC fs b.length nm with
 |.inl _=>[]
 |.inr (at_,f)=>if aM v.k v.b v.t f.k f.l=true then gy b at_ (cR v.b v.t f.k f.l) else[]
def kn (b:EN) (fs:List Fd) (nm:EP) (v:Vl):Int:=match gC fs b.length nm with
 |.inl q=>q
 |.inr (_,f)=>if aM v.k v.b v.t f.k f.l=true then 0 else 50
theorem sh (l:EN) (n:Nat):(aH l).take n=aH (l.take n):=by simp[aH]
theorem se (l:EN) (n:Nat):(aH l).drop n=aH (l.drop n):=by simp[aH]
theorem uM {cur:EO} {b x:EN} {i:Nat} (hc:cur.take b.length=aH b) (h:i+x.length<=b.length):(splice cur i (aH x)).take b.length=aH (gy b i x):=by
 have hlen:b.length<=cur.length:=by
  have:=congrArg List.length hc
  rw[Qx,bO] at this;omega
 have h1:cur.take i=aH (b.take i):=by rw[<-sh,<-hc,List.take_take,Nat.min_eq_left (by omega)]
 have h2:(cur.drop (i+x.length)).take (b.length - (i+x.length))=aH (b.drop (i+x.length)):=by
  rw[<-se,<-hc,List.drop_take]
 rw[splice,bO,h1,gy,bE,bE,X8]
 rw[List.take_append,List.take_append,bO,bO,Vx (by rw[bO,Qx];omega),Vx (l:=aH x) (by rw[bO,Qx];omega)]
 congr 2
 rw[<-h2]
 congr 1
 rw[Qx];omega
theorem EK:(Tryz.prog.info? 5).map (·.size)=some 1:=by kernel_rfl
theorem Ai {w:EQ} {base:Nat} {e:ES} {n:Nat} {v:ER} {xs:EO} (h:w.ownsRow base e 1 v n xs) (hn:0<n):∃g cap cur,v=.slice (some ⟨g,0,none⟩) n cap/\base<=g/\aD w g cur e/\n<=cap/\cap<=maxLen/\cur.length=cap/\cur.take n=xs:=by
 obtain⟨h1,⟨_,h0⟩|⟨g,cap,cur,rfl,hg,hgb,hnc,hcm,hcs,hct⟩⟩:=h
 ·omega
 ·exact⟨g,cap,cur.toList,rfl,hg,hgb,hnc,hcm,by rw[Array.length_toList,hcs];omega,by simpa using hct⟩
theorem Bd (Ab:EL) (cb:Nat) (b:EN) (A:EL) (c:Nat) (fs:List Fd) (nm:EP) (v:Vl) (q:Int) (h:gC fs b.length nm=.inl q) (w:EQ) (hA:Rd w A (aC fs)) (hl:fs.length<=9223372036854775807):
 Calls Tryz.prog 75 #[.slice Ab b.length cb,.slice A fs.length c,.string nm,v.v] w fun e w'=>e=.returned (.tuple #[.slice none 0 0,.int .i64 q])/\Below w.heap.size w w':=by
 have hq:(q != 0)=true:=by rcases qr h with ⟨rfl,_⟩|⟨rfl,_⟩ <;> rfl
 have H:=J0 h
 clear h
 unfold Vl.v
 go_enter Tryz.func75,Tryz.ntmps75
 go_wp2_with (go_at_call 106;refine(qF Ab b.length cb A c fs nm q H.out _ (hA.below (aA _)) hl).mono ?_;rintro e w1 ⟨rfl,hb1⟩;have HB:=aB (aA _) hb1;have hz1:w.heap.size<w1.heap.size:=(by have:=hb1.size;simp at this;omega))
 go_ret2
 refine⟨rfl,?_⟩
 (repeat (first|exact HB|refine J8 ?_ (by dsimp only;omega) _|refine Jk ?_ (by have:=HB.size;(try simp) <;> omega) _|apply Jv))
theorem Be (Ab:EL) (cb:Nat) (b:EN) (A:EL) (c:Nat) (fs:List Fd) (nm:EP) (v:Vl) (h0:0<=v.b) (h1:v.b<18446744073709551616) (at_:Nat) (f:Fd) (h:gC fs b.length nm=.inr (at_,f)) (hr:aM v.k v.b v.t f.k f.l=false) (w:EQ) (hA:Rd w A (aC fs)) (hl:fs.length<=9223372036854775807):
 Calls Tryz.prog 75 #[.slice Ab b.length cb,.slice A fs.length c,.string nm,v.v] w fun e w'=>e=.returned (.tuple #[.slice none 0 0,.int .i64 50])/\Below w.heap.size w w':=by
 have H:=J0 h
 have HR:=J0 hr
 clear h hr
 unfold Vl.v
 go_enter Tryz.func75,Tryz.ntmps75
 go_wp2_with (first
  |(go_at_call 106;refine(oD Ab b.length cb A c fs nm at_ f H.out _ (hA.below (aA _)) hl).mono ?_;rintro e w1 ⟨rfl,hb1⟩;have HB:=aB (aA _) hb1;have hz1:w.heap.size<w1.heap.size:=(by have:=hb1.size;simp at this;omega);obtain⟨c0,c1,c2⟩:=(eJ.new w v.k v.b v.t).below hb1)
  |(go_at_call 61;refine(lj _ _ _ _ _ _ h0 h1 HR.out _).mono ?_;rintro e w2 ⟨rfl,hb2⟩;have HB:=aB (HB.alloc (by omega) _) hb2))
 go_ret2
 refine⟨rfl,?_⟩
 (repeat (first|exact HB|refine J8 ?_ (by dsimp only;omega) _|refine Jk ?_ (by have:=HB.size;(try simp) <;> omega) _|apply Jv))
theorem CR (Ab:EL) (cb:Nat) (b:EN) (A:EL) (c:Nat) (fs:List Fd) (nm:EP) (v:Vl) (h0:0<=v.b) (h1:v.b<18446744073709551616) (at_:Nat) (f:Fd) (h:gC fs b.length nm=.inr (at_,f)) (hr:aM v.k v.b v.t f.k f.l=true) (w:EQ) (hA:Rd w A (aC fs)) (hl:fs.length<=9223372036854775807) (hb:Rd w Ab (aH b)):
 Calls Tryz.prog 75 #[.slice Ab b.length cb,.slice A fs.length c,.string nm,v.v] w fun e w'=>∃x,e=.returned (.tuple #[x,.int .i64 0])/\sN w' x (gy b at_ (cR v.b v.t f.k f.l))/\Below w.heap.size w w':=by
 obtain⟨hm,hin,hlen,hn⟩:=qs h
 have hel:=gS hr
 obtain⟨xs,hxs⟩:∃xs,cR v.b v.t f.k f.l=xs:=⟨_,rfl⟩
 rw[hxs] at hel |-
 have H:=J0 h
 have HR:=J0 hr
 have HX:=J0 hxs
 clear h hr hxs
 unfold Vl.v
 go_enter Tryz.func75,Tryz.ntmps75
 go_wp2_with (first
  |(go_at_call 106;refine(oD Ab b.length cb A c fs nm at_ f H.out _ (hA.below (aA _)) hl).mono ?_;rintro e w1 ⟨rfl,hb1⟩;have HB:=aB (aA _) hb1;have hz1:w.heap.size<w1.heap.size:=(by have:=hb1.size;simp at this;omega);obtain⟨c0,c1,c2⟩:=(eJ.new w v.k v.b v.t).below hb1;have hbw:=(hb.below (aA _)).below hb1)
  |(go_at_call 61;refine(sH _ _ _ _ _ _ h0 h1 HR.out _).mono ?_;rintro e w2 ⟨xv,rfl,hox,hb2⟩;have HB:=aB (HB.alloc (by omega) _) hb2;rw[HX.out] at hox;have hz2:=HB.size;have hbw:=(hbw.below (aA _)).below hb2)
  |(go_at_call 38;refine(lh Ab cb b _ hbw (by omega)).mono ?_;rintro e w3 ⟨ov,rfl,hown,hb3⟩;have HB:=aB HB hb3;have hox:=hox.below hb3;obtain⟨XA,xc,rfl,hxc,hxr⟩:=hox;obtain⟨g,cap,cur,rfl,hg,hO,hnc,hcm,hcs,hct⟩:=Ai hown (by omega);have s1:(at_:Int)<=(b.length:Int):=(by omega);have s2:¬cap=at_:=(by omega);have s3:¬b.length=at_:=(by omega);have hO':w3.heap[g]?=some (.cells cur.toArray 5 (0,0)):=hO;clear hO)
  |(with_reducible refine wpList_copy_splice rfl _ _ 44 44 rfl 5 Tryz.underlying44 EK (some ⟨g,at_,none⟩) XA (b.length - at_) (cap - at_) f.n xc rfl rfl g at_ cur 5 hO' (aH xs) ?n ?pos ?fit ?one w.heap.size w HB ?hg ?_))
 case n=>rw[bO,hel];exact(Nat.min_eq_left (by omega)).symm
 case pos=>
  intro h
  obtain⟨ad,rfl,hc⟩:=hxr (by intro e;rw[e] at h;simp at h)
  first|exact⟨rfl,ad,rfl,hc⟩|exact⟨ad,rfl,hc⟩
 case fit=>rw[bO];omega
 case one=>intro u hu;simp[aH] at hu;obtain⟨x,_,rfl⟩:=hu;rfl
 case hg=>omega
 intro w4 hO4 hB4
 have hO4:=hO4.out
 have hr4:Rd w4 (some ⟨g,0,none⟩) (aH (gy b at_ xs)):=by
  rw[<-uM hct (by omega)]
  refine fun _=>⟨_,rfl,fun j u hj=>?_⟩
  have e:(⟨g,0,none⟩:Addr).add j=⟨g,j,none⟩:=by unfold Addr.add;split <;> simp_all
  rw[e]
  rw[X7] at hj
  split at hj
  ·exact aD.cell (w:=w4) hO4 hj
  ·cases hj
 clear hO4
 go_wp2
 go_ret2
 exact⟨.slice (some ⟨g,0,none⟩) b.length cap,rfl,⟨_,cap,by rw[iU (by omega)],by rw[iU (by omega)];exact hnc,hr4⟩,hB4⟩
theorem xZ (Ab:EL) (cb:Nat) (b:EN) (A:EL) (c:Nat) (fs:List Fd) (nm:EP) (v:Vl) (h0:0<=v.b) (h1:v.b<18446744073709551616) (w:EQ) (hA:Rd w A (aC fs)) (hl:fs.length<=9223372036854775807) (hb:Rd w Ab (aH b)):
 Calls Tryz.prog 75 #[.slice Ab b.length cb,.slice A fs.length c,.string nm,v.v] w fun e w'=>∃x,e=.returned (.tuple #[x,.int .i64 (kn b fs nm v)])/\sN w' x (fq b fs nm v)/\Below w.heap.size w w':=by
 cases h:gC fs b.length nm with
 |inl q=>
  have e1:fq b fs nm v=[]:=by simp[fq,h]
  have e2:kn b fs nm v=q:=by simp[kn,h]
  rw[e1,e2]
  refine(Bd Ab cb b A c fs nm v q h w hA hl).mono ?_
  rintro e w' ⟨rfl,hb⟩
  exact⟨_,rfl,⟨none,0,rfl,J9 _,Rd.nil _ _⟩,hb⟩
 |inr x=>
  obtain⟨at_,f⟩:=x
  cases hr:aM v.k v.b v.t f.k f.l
  ·have e1:fq b fs nm v=[]:=by simp[fq,h,hr]
   have e2:kn b fs nm v=50:=by simp[kn,h,hr]
   rw[e1,e2]
   refine(Be Ab cb b A c fs nm v h0 h1 at_ f h hr w hA hl).mono ?_
   rintro e w' ⟨rfl,hb⟩
   exact⟨_,rfl,⟨none,0,rfl,J9 _,Rd.nil _ _⟩,hb⟩
  ·have e1:fq b fs nm v=gy b at_ (cR v.b v.t f.k f.l):=by simp[fq,h,hr]
   have e2:kn b fs nm v=0:=by simp[kn,h,hr]
   rw[e1,e2]
   exact CR Ab cb b A c fs nm v h0 h1 at_ f h hr w hA hl hb
def dm (f:Fd):EN:=UInt8.ofNat f.s.size :: (bl f.s++[UInt8.ofNat f.k.toNat,UInt8.ofNat f.l.toNat])
def eQ (fs:List Fd):EN:=UInt8.ofNat fs.length :: fs.flatMap dm
theorem mO (f:Fd):(dm f).length=f.s.size+3:=by simp[dm,aZ]
theorem ir (fs:List Fd) (h:∀f∈fs,f.s.size<=15):(fs.flatMap dm).length<=18 * fs.length:=by
 induction fs with
 |nil=>simp
 |cons f r ih=>
  have h1:=h f (List.mem_cons_self ..)
  have h2:=ih fun g hg=>h g (List.mem_cons_of_mem _ hg)
  rw[List.flatMap_cons,Vq,mO,Xq];omega
theorem jT {s:EP} (h:bI s=true):1<=s.size/\s.size<=15:=by
 simp only[bI,Qz,Y8] at h
 exact h.2
theorem gY {fs:List Fd} (h:aK fs=true) {f:Fd} (hf:f∈fs):bI f.s=true:=by
 simp only[aK,Qz,Y8] at h
 obtain⟨i,hi,rfl⟩:=List.getElem_of_mem hf
 have:=h.1 i hi
 simp only[vJ,Qz] at this
 exact this.1.1
theorem lI {k l:Int} (h:bW k l=true):0<=k/\k<=12/\0<=l/\l<=64:=by
 by_cases hk:k=12
 ·subst hk
  have:=br.1 (eI▸h)
  omega
 ·obtain⟨h1,h2⟩:=fm h hk
  have:=(ko k).1 h2
  omega
theorem mX {P:Program} {w:EQ} {ops:Array Oper} {o:Oper} {a:Act} {K:Act->EQ->Prop} {Q:Exit->Act->EQ->Prop} {E:Prop} (hgd:o.guard=none) (sl x:Operand) (t u:ES)
 (ho:o.op=.call { callee:=.builtin .append,args:=#[sl,x],argTypes:=#[t,u] })
 (base:Nat) (e:ES) (i:TypeInfo) (ht:P.underlying t=some (.slice e)) (hu:P.underlying u=some .string) (hi:P.info? e=some i) (hz:i.zero=some (.int .u8 0))
 (hsize:i.size=1) (hby:i.bytes=1)
 (v:ER) (n:Nat) (xs:EO) (hs:a.eval sl=v) (hown:w.ownsRow base e 1 v n xs) (s:EP) (hx:a.eval x=.string s)
 (h63:n+s.size<=maxLen) (hbytes:n+s.size<=140737488355328) (hbase:base<=w.heap.size)
 (h:∀v' w',w'.ownsRow base e 1 v' (n+s.size) (xs++Lib.strCells s)->w.grownBy w' v.ownBlock->K (a.put o.dst v') w'):
 if Region.wanted o (yielded ops a.tmps)=true then Oper.wp P o a w K Q else E:=by
 have hw:Region.wanted o (yielded ops a.tmps)=true:=by simp[Region.wanted,hgd]
 rw[Xz hw]
 obtain⟨v',w',hr,h2,h3,h4⟩:=Lib.run_append_own_string (P:=P) w base t u o.type e i ht hu hi hz hsize hby v n xs hown s h63 hbytes hbase
 unfold Oper.wp execOp
 simp only[ho,resolve,invoke,builtin,Sem.run_bind,Sem.run_pure,Result.andThen_ok,List.map_toArray,List.map_cons,List.map_nil,hs,hx,hr]
 exact h v' w' h2 h3
theorem uc (A:EL) (c:Nat) (fs:List Fd) (hr:aK fs=false) (w:EQ) (hA:Rd w A (aC fs)) (hl:fs.length<=9223372036854775807):
 Calls Tryz.prog 60 #[.slice A fs.length c] w fun e w'=>e=.returned (.tuple #[.slice none 0 0,.int .i64 60])/\Below w.heap.size w w':=by
 have HR:=J0 hr
 clear hr
 go_enter Tryz.func60,Tryz.ntmps60
 go_wp2_with (go_at_call 62;refine(dA _ _ _ _ HR.out _ hA hl).mono ?_;rintro e w1 ⟨rfl,hb1⟩)
 go_ret2
 exact⟨rfl,hb1⟩
def cW (fs:List Fd) (k:Nat):EN:=UInt8.ofNat fs.length :: (fs.take k).flatMap dm
theorem oB {fs:List Fd} {k:Nat} {f:Fd} (hf:fs[k]?=some f):cW fs (k+1)=cW fs k++dm f:=by
 unfold cW
 rw[Vv,hf]
 simp
theorem aY {w:EQ} {base:Nat} {e:ES} {size n:Nat} {v:ER} {xs:EO} (h:w.ownsRow base e size v n xs) (k:Nat) (hk:v.ownBlock=some k):k<w.heap.size:=by
 rcases h.2 with ⟨rfl,_⟩|⟨g,cap,cur,rfl,hb,hg,_⟩
 ·simp[Value.ownBlock] at hk
 ·have:g=k:=by simpa[Value.ownBlock] using hk
  subst this
  exact(Qq.1 hg).1
theorem ag {w:EQ} {base:Nat} {e:ES} {size n m:Nat} {v:ER} {xs ys:EO} (h:w.ownsRow base e size v n xs) (hn:n=m) (hx:xs=ys):w.ownsRow base e size v m ys:=by subst hn hx;exact h
theorem zy {b g n:Nat} {o:Option Nat} (h:some b≠o) (hat:o=some g\/g=n+1) (hb:b<n):some b≠some g:=fun e=>by
 cases e
 rcases hat with h1|h1
 ·exact h h1.symm
 ·omega
theorem DU (w:EQ) (u v:ER) (T:ES):∀j x,[u,v][j]?=some x->(w.alloc (.cells #[u,v] T)).cell? ((⟨w.heap.size,0,none⟩:Addr).add j)=some x:=by
 intro j x hj
 match j with
 |0=>simp at hj;subst hj;exact bD w _ T 0 u rfl
 |1=>simp at hj;subst hj;exact bD w _ T 1 v rfl
 |j+2=>simp at hj
theorem sJ (A:EL) (c:Nat) (fs:List Fd) (hr:aK fs=true) (w:EQ) (hA:Rd w A (aC fs)) (hl:fs.length<=9223372036854775807):
 Calls Tryz.prog 60 #[.slice A fs.length c] w fun e w'=>∃v,e=.returned (.tuple #[v,.int .i64 0])/\w'.ownsRow w.heap.size 5 1 v (eQ fs).length (aH (eQ fs))/\Below w.heap.size w w':=by
 obtain⟨i0,hi,hz0,hz1,hz2⟩:=info_parts nW
 obtain⟨hmay,h16⟩:=aQ hr
 have hnm:=fun f hf=>jT (gY hr (f:=f) hf)
 have HR:=J0 hr
 clear hr
 go_enter Tryz.func60,Tryz.ntmps60
 go_wp2_with (go_at_call 62;refine(dA _ _ _ _ HR.out _ hA hl).mono ?_;rintro e w1 ⟨rfl,hb1⟩)
 have e0:aH (cW fs 0)=[.int .u8 (fs.length:Int)]:=by simp[cW,aH];omega
 have hown0:(w1.alloc (.cells #[.int .u8 (fs.length:Int)] 5)).ownsRow w.heap.size 5 1 (.slice (some ⟨w1.heap.size,0,none⟩) 1 1) (cW fs 0).length (aH (cW fs 0)):=by
  rw[e0]
  exact⟨rfl,.inr ⟨_,1,#[.int .u8 (fs.length:Int)],rfl,hb1.size,Y7 _ _,J9 _,by decide,rfl,rfl⟩⟩
 have HB0:=hb1.alloc hb1.size (.cells #[.int .u8 (fs.length:Int)] 5)
 clear e0 HR
 go_loopw [4,6,16] (fun v _ i wr=>∃k:Nat,k<=fs.length/\i=.int .i64 k/\wr.ownsRow w.heap.size 5 1 v (cW fs k).length (aH (cW fs k))/\Below w.heap.size w wr) (fun _ _ i _=>fs.length - (intOf i).toNat)
 case atStart=>exact⟨0,by omega,rfl,hown0,HB0⟩
 case round=>
  obtain⟨k,hk,rfl,hown,HB⟩:=hrel
  clear hown0 HB0 hb1
  have hAr:=hA.below HB
  by_cases hlt:k<fs.length
  ·obtain⟨f,hf⟩:∃f,fs[k]?=some f:=⟨_,J4 hlt⟩
   obtain⟨ad,rfl,c0,c1,c2⟩:=hAr.fld hf
   have hfm:=J7 hf
   obtain⟨n1,n2⟩:=hnm f hfm
   obtain⟨m1,m2,m3,m4⟩:=lI (hmay f hfm)
   have hsucc:=oB hf
   have hpl:(cW fs k).length<=400:=by
    have:=ir (fs.take k) (fun g hg=>(hnm g (List.mem_of_mem_take hg)).2)
    rw[Qx] at this
    simp only[cW,Xq];omega
   have HS:=J0 hsucc
   obtain⟨F0a,F0b,F0c⟩:=cG.new wr f.s f.k f.l
   have hzr:=HB.size
   have hlt0:=aY hown
   have hownW:=hown.alloc (.cells #[.string f.s,.int .i64 f.k,.int .i64 f.l] 68)
   have HBW:=HB.alloc hzr (.cells #[.string f.s,.int .i64 f.k,.int .i64 f.l] 68)
   clear hsucc hf hA hAr hown HB
   go_wp2
   obtain⟨Bf,hBf⟩:∃b,wr.heap.size=b:=⟨_,rfl⟩
   have hWs:Bf<(wr.alloc (.cells #[.string f.s,.int .i64 f.k,.int .i64 f.l] 68)).heap.size:=by rw[<-hBf];simp
   rw[hBf] at F0a F0b F0c hzr |-
   have hne1:some Bf≠u4.ownBlock:=fun e=>by have:=hlt0 _ e.symm;omega
   obtain⟨W,hW⟩:∃W,wr.alloc (.cells #[.string f.s,.int .i64 f.k,.int .i64 f.l] 68)=W:=⟨_,rfl⟩
   rw[hW] at F0a F0b F0c hWs hownW HBW |-
   clear hW hBf hlt0
   have hsW:w.heap.size<=W.heap.size:=by omega
   have hn1:∀j u,[Value.int .u8 (f.s.size:Int)][j]?=some u->(W.alloc (.cells #[.int .u8 (f.s.size:Int)] 5)).drew.cell? ((⟨W.heap.size,0,none⟩:Addr).add j)=some u:=CI W (.int .u8 (f.s.size:Int)) 5
   have hwr:IntKind.u8.wrap (f.s.size:Int)=(f.s.size:Int):=IntWalk.u8_in _ (by omega)
   have tok1:=Yz
   go_region_held3 (fun w'=>w'.cell? ⟨Bf,0,none⟩=some (.string f.s)/\w'.cell? ⟨Bf,1,none⟩=some (.int .i64 f.k)/\w'.cell? ⟨Bf,2,none⟩=some (.int .i64 f.l))
    (first|go_keep|(go_split_ands;refine⟨?_,?_,?_⟩ <;> (first|(rw[hgrow2.cell_far _ (by simp;omega) hne2];assumption)|(rw[hgrow1.cell_far _ (by simp;omega) hne1];assumption))))
    (first
      |(have _t:=tok1;refine step_append_lies _ (by rfl) _ _ _ (by rfl) w.heap.size 5 i0 (.int .u8 0) 1 1 Tryz.underlying44 hi hz0 hz1 hz2 rfl (by omega) u4 (cW fs k).length (aH (cW fs k)) (by rfl) ((hownW.alloc _).drew) ⟨W.heap.size,0,none⟩ 1 1 [.int .u8 (f.s.size:Int)] (by rfl) (by rfl) hn1 (by simp[Value.oneCell']) (by omega) (by unfold maxLen;omega) (by omega) (by simp;omega) (W.heap.size+1) (by simp) ?_;intro g cap w2 hown2 hgrow1 hat hlt2;clear tok1;have tok2:=Yz;have hne2:=zy hne1 hat hWs;have hs2:=hgrow1.size;simp at hs2;have hs3:w.heap.size<=w2.heap.size:=Q7 hsW (Nat.le_of_succ_le hs2))
      |(have _t:=tok2;refine mX (by rfl) _ _ _ _ (by rfl) w.heap.size 5 i0 Tryz.underlying44 Tryz.underlying9 hi hz0 hz1 hz2 (.slice (some ⟨g,0,none⟩) ((cW fs k).length+1) cap) ((cW fs k).length+1) _ (by rfl) hown2 f.s (by rfl) (by unfold maxLen;omega) (by omega) hs3 ?_;intro v3 w3 hown3 hgrow2;clear tok2))
   obtain⟨d0,d1,d2⟩:w3.cell? ⟨Bf,0,none⟩=some (.string f.s)/\w3.cell? ⟨Bf,1,none⟩=some (.int .i64 f.k)/\w3.cell? ⟨Bf,2,none⟩=some (.int .i64 f.l):=by assumption
   have HB2:Below w.heap.size w w2:=Below.grown (w:=(W.alloc (.cells #[.int .u8 (f.s.size:Int)] 5)).drew) (HBW.alloc hsW _).drew hgrow1 (Q7 hsW (by simp)) (fun q hq=>aF hownW q hq)
   have HB3:Below w.heap.size w w3:=HB2.grown hgrow2 hs3 (fun q hq=>aF hown2 q hq)
   have hs4:=HB3.size
   have hown4:w3.ownsRow w.heap.size 5 1 v3 ((cW fs k).length+1+f.s.size) (aH (cW fs k++(UInt8.ofNat f.s.size :: bl f.s))):=by
    refine ag hown3 rfl ?_
    have e:UInt8.ofNat f.s.size :: bl f.s=[UInt8.ofNat f.s.size]++bl f.s:=rfl
    rw[e,bE,bE,X8]
    have e2:aH [UInt8.ofNat f.s.size]=[Value.int .u8 (f.s.size:Int)]:=by simp[aH];omega
    rw[e2];rfl
   clear hwr hown3 hgrow2 hgrow1 hown2 hownW HBW F0a F0b F0c hne1 hne2 hs2 hs3 hn1 hat hlt2 HB2 hWs
   go_wp2_with (at_builtin;refine Y5 _ rfl _ _ 44 rfl w.heap.size 5 i0 (.int .u8 0) 1 1 Tryz.underlying44 hi hz0 hz1 hz2 rfl (by decide) _ _ _ rfl (hown4.alloc _) ⟨w3.heap.size,0,none⟩ 2 2 [.int .u8 f.k,.int .u8 f.l] rfl rfl ?c1 ?c2 ?c3 ?c4 ?c5 ?_)
   case c1=>exact DU _ _ _ _
   case c2=>intro u hu;simp at hu;rcases hu with rfl|rfl <;> rfl
   case c3=>simp only[maxLen];omega
   case c4=>omega
   case c5=>simp;omega
   intro v5 w5 hown5 hgrow5 _
   have HB5:=(HB3.alloc hs4 (.cells #[.int .u8 f.k,.int .u8 f.l] 5)).grown hgrow5 (by simp;omega) (fun q hq=>aF hown4 q hq)
   have hown6:w5.ownsRow w.heap.size 5 1 v5 (cW fs (k+1)).length (aH (cW fs (k+1))):=by
    refine ag hown5 ?_ ?_
    ·rw[HS.out,Vq,mO];omega
    ·rw[HS.out,dm,<-List.cons_append,<-X8,bE (_++ _)]
     congr 1
     simp[aH];omega
   clear hown5 hgrow5 hown4 HB3
   go_wp2
   go_roundw
   case rel=>exact⟨k+1,by omega,by go_num,hown6,HB5⟩
   case measure=>simp[intOf];omega
  ·obtain rfl:k=fs.length:=by omega
   have e:cW fs fs.length=eQ fs:=by rw[cW,List.take_length];rfl
   rw[e] at hown
   clear hA hAr e
   go_wp2
   go_ret2
   exact⟨_,rfl,hown,HB⟩
def kN (fs:List Fd):EN:=if aK fs=true then eQ fs else[]
def uS (fs:List Fd):Int:=if aK fs=true then 0 else 60
theorem ox (A:EL) (c:Nat) (fs:List Fd) (w:EQ) (hA:Rd w A (aC fs)) (hl:fs.length<=9223372036854775807):
 Calls Tryz.prog 60 #[.slice A fs.length c] w fun e w'=>∃v,e=.returned (.tuple #[v,.int .i64 (uS fs)])/\sN w' v (kN fs)/\Below w.heap.size w w':=by
 cases hr:aK fs
 ·have e1:kN fs=[]:=by simp[kN,hr]
  have e2:uS fs=60:=by simp[uS,hr]
  rw[e1,e2]
  refine(uc A c fs hr w hA hl).mono ?_
  rintro e w' ⟨rfl,hb⟩
  exact⟨_,rfl,⟨none,0,rfl,J9 _,Rd.nil _ _⟩,hb⟩
 ·have e1:kN fs=eQ fs:=by simp[kN,hr]
  have e2:uS fs=0:=by simp[uS,hr]
  rw[e1,e2]
  refine(sJ A c fs hr w hA hl).mono ?_
  rintro e w' ⟨v,rfl,ho,hb⟩
  obtain⟨B,c',rfl,h1,_,h2⟩:=aL ho
  exact⟨_,rfl,⟨B,c',rfl,h1,h2⟩,hb⟩
def xC (f:Fd):Prop:=f.s.size<256/\0<=f.k/\f.k<256/\0<=f.l/\f.l<256
def fg:EN->Option (Fd×EN)
 |[]=>none
 |n :: q=>if n.toNat+2<=q.length then some (⟨aR (q.take n.toNat),(q.getD n.toNat 0).toNat,(q.getD (n.toNat+1) 0).toNat⟩,q.drop (n.toNat+2)) else none
def wm:EN->Nat->Option (List Fd×EN)
 |r,0=>some ([],r)
 |r,k+1=>match fg r with
  |none=>none
  |some (f,r')=>(wm r' k).map fun x=>(f :: x.1,x.2)
theorem lZ {n:Nat} (h:n<256):(UInt8.ofNat n).toNat=n:=by simp;omega
theorem xB (x:UInt8):UInt8.ofNat x.toNat=x:=by simp
theorem oY {f:Fd} (h:xC f) (r:EN):fg (dm f++r)=some (f,r):=by
 obtain⟨h1,h2,h3,h4,h5⟩:=h
 have e:dm f++r=UInt8.ofNat f.s.size :: (bl f.s++([UInt8.ofNat f.k.toNat,UInt8.ofNat f.l.toNat]++r)):=by simp[dm]
 have hbl:=aZ f.s
 rw[e,fg,lZ h1]
 rw[Xz (by simp[hbl])]
 have t1:(bl f.s++([UInt8.ofNat f.k.toNat,UInt8.ofNat f.l.toNat]++r)).take f.s.size=bl f.s:=by rw[<-hbl];exact List.take_left
 have t2:(bl f.s++([UInt8.ofNat f.k.toNat,UInt8.ofNat f.l.toNat]++r)).drop (f.s.size+2)=r:=by
  rw[List.drop_append,hbl,List.drop_of_length_le (by omega)]
  rw[show f.s.size+2 - f.s.size=2 by omega]
  rfl
 have t3:(bl f.s++([UInt8.ofNat f.k.toNat,UInt8.ofNat f.l.toNat]++r)).getD f.s.size 0=UInt8.ofNat f.k.toNat:=by
  rw[Yy,Qk (by omega),hbl];simp
 have t4:(bl f.s++([UInt8.ofNat f.k.toNat,UInt8.ofNat f.l.toNat]++r)).getD (f.s.size+1) 0=UInt8.ofNat f.l.toNat:=by
  rw[Yy,Qk (by omega),hbl];simp
 rw[t1,t2,t3,t4,cl,lZ (by omega),lZ (by omega)]
 have e1:((f.k.toNat:Nat):Int)=f.k:=by omega
 have e2:((f.l.toNat:Nat):Int)=f.l:=by omega
 rw[e1,e2]
theorem oR {r r':EN} {f:Fd} (h:fg r=some (f,r')):r=dm f++r'/\xC f:=by
 cases r with
 |nil=>simp[fg] at h
 |cons n q=>
  rw[fg] at h
  split at h
  ·rename_i hn
   cases h
   have hn1:=n.toNat_lt
   have hsz:(aR (q.take n.toNat)).size=n.toNat:=by rw[aj,Qx];omega
   have hb1:=(q.getD n.toNat 0).toNat_lt
   have hb2:=(q.getD (n.toNat+1) 0).toNat_lt
   refine⟨?_,?_⟩
   ·simp only[dm]
    rw[hsz,fi,xB,Int.toNat_natCast,Int.toNat_natCast,xB,xB]
    have e:q=q.take n.toNat++(q.getD n.toNat 0 :: q.getD (n.toNat+1) 0 :: q.drop (n.toNat+2)):=by
     conv=>lhs;rw[<-List.take_append_drop n.toNat q]
     congr 1
     have l1:n.toNat<q.length:=by omega
     have l2:n.toNat+1<q.length:=by omega
     rw[Yy,Yy,J4 l1,J4 l2,List.drop_eq_getElem_cons l1,List.drop_eq_getElem_cons l2]
     rfl
    conv=>lhs;rw[e]
    simp
   ·refine⟨by rw[hsz];omega,?_,?_,?_,?_⟩ <;> dsimp only <;> omega
  ·cases h
theorem iA {l:List Fd} (h:∀f∈l,xC f) (r:EN) {k:Nat} (hk:k<=l.length):wm (l.flatMap dm++r) k=some (l.take k,(l.drop k).flatMap dm++r):=by
 induction k generalizing l with
 |zero=>simp[wm]
 |succ k ih=>
  cases l with
  |nil=>simp at hk
  |cons f t=>
   rw[List.flatMap_cons,X8,wm,oY (h f (List.mem_cons_self ..))]
   simp only[]
   rw[ih (fun g hg=>h g (List.mem_cons_of_mem _ hg)) (by simpa using hk)]
   simp
theorem zT {r r':EN} {k:Nat} {l:List Fd} (h:wm r k=some (l,r')):r=l.flatMap dm++r'/\l.length=k/\∀f∈l,xC f:=by
 induction k generalizing r l with
 |zero=>
  simp[wm] at h
  obtain⟨rfl,rfl⟩:=h
  simp
 |succ k ih=>
  rw[wm] at h
  split at h
  ·cases h
  ·rename_i f q hq
   obtain⟨rfl,hf⟩:=oR hq
   cases hr:wm q k with
   |none=>rw[hr] at h;simp at h
   |some x=>
    obtain⟨t,q'⟩:=x
    rw[hr] at h
    simp at h
    obtain⟨rfl,rfl⟩:=h
    obtain⟨rfl,h2,h3⟩:=ih hr
    refine⟨by simp,by simp[h2],fun g hg=>?_⟩
    rcases List.mem_cons.1 hg with rfl|hg
    ·exact hf
    ·exact h3 g hg
def da:EN->Option (List Fd)
 |[]=>none
 |c :: q=>match wm q c.toNat with
  |some (l,[])=>if aK l=true then some l else none
  |_=>none
theorem iB {l:List Fd} (h:aK l=true):∀f∈l,xC f:=fun f hf=>by
 obtain⟨h1,h2⟩:=jT (gY h hf)
 obtain⟨h3,h4,h5,h6⟩:=lI ((aQ h).1 f hf)
 unfold xC;omega
theorem gv (b:EN) (l:List Fd):da b=some l↔aK l=true/\eQ l=b:=by
 constructor
 ·intro h
  cases b with
  |nil=>cases h
  |cons c q=>
   rw[da] at h
   split at h
   ·rename_i l' hl
    split at h
    ·rename_i hr
     cases h
     obtain⟨h1,h2,h3⟩:=zT hl
     refine⟨hr,?_⟩
     rw[eQ,h2,xB,h1,List.append_nil]
    ·cases h
   ·cases h
 ·rintro ⟨hr,rfl⟩
  have h16:=(aQ hr).2
  have:=iA (iB hr) [] (J9 l.length)
  rw[List.append_nil,List.take_length,List.drop_length] at this
  rw[eQ,da,lZ (by omega),this]
  simp[hr]
theorem zH {l:List Fd} (h:aK l=true):da (eQ l)=some l:=(gv _ _).2 ⟨h,rfl⟩
theorem pZ {c:UInt8} {l0 l:List Fd} {r:EN} (hw:∀f∈l0,xC f) (hl:l0.length<=c.toNat) (h:da (c :: (l0.flatMap dm++r))=some l):l.length=c.toNat/\l0=l.take l0.length/\r=(l.drop l0.length).flatMap dm/\aK l=true:=by
 obtain⟨hr,he⟩:=(gv _ _).1 h
 have h16:=(aQ hr).2
 rw[eQ] at he
 injection he with he1 he2
 have hc:l.length=c.toNat:=by rw[<-he1,lZ (by omega)]
 have e1:=iA hw r (J9 l0.length)
 rw[List.take_length,List.drop_length] at e1
 have e2:=iA (iB hr) [] (k:=l0.length) (by omega)
 rw[List.append_nil,he2,e1] at e2
 simp at e2
 exact⟨hc,e2.1,e2.2,hr⟩
theorem iI (A:EL) (m c:Nat) (b:EN) (hm:b.length=m) (at_:Int) (p:Nat) (hp:at_=p) (x:UInt8) (hx:b[p]?=some x) (w:EQ) (hA:Rd w A (aH b)) (hl:m<=9223372036854775807):
 Calls Tryz.prog 86 #[.slice A m c,.int .i64 at_,.int .i64 1] w fun e w'=>e=.returned (.tuple #[.int .u64 (x.toNat:Int),.bool true])/\Below w.heap.size w w':=by
 subst hm hp
 obtain⟨h1,h2⟩:=J6.1 hx
 have:=mw A c b p 1 w hA (by omega) (by decide) (by omega) hl
 have e:(b.drop p).take 1=[x]:=by rw[List.drop_eq_getElem_cons h1,h2];rfl
 rw[e] at this
 simpa[eV,fJ] using this
theorem kP (A:EL) (m c:Nat) (at_:Int) (h:(m:Int)<=at_) (w:EQ) (hl:m<=9223372036854775807):
 Calls Tryz.prog 86 #[.slice A m c,.int .i64 at_,.int .i64 1] w fun e w'=>e=.returned (.tuple #[.int .u64 0,.bool false])/\Below w.heap.size w w':=
 sK A m c at_ 1 w hl (.inr (by simp[nY];omega))
theorem fI:(Tryz.prog.info? 68).map (fun i=>(i.zero,i.size,i.bytes))=some (some (.agg #[.string ⟨#[]⟩,.int .i64 0,.int .i64 0]),3,32):=by kernel_rfl
theorem eB (a b:List Fd):aC (a++b)=aC a++aC b:=by simp[aC]
def wH (b:EN) (e:Ending) (w w':EQ):Prop:=
 (∃l v,da b=some l/\e=.returned (.tuple #[v,.int .i64 0])/\w'.ownsRow w.heap.size 68 3 v l.length (aC l))\/(da b=none/\e=.returned (.tuple #[.slice none 0 0,.int .i64 60]))
theorem sI (A:EL) (c:Nat) (w:EQ):
 Calls Tryz.prog 87 #[.slice A 0 c] w fun e w'=>e=.returned (.tuple #[.slice none 0 0,.int .i64 60])/\Below w.heap.size w w':=by
 go_enter Tryz.func87,Tryz.ntmps87
 go_wp2_with (go_at_call 86;refine(kP A 0 c 0 (by omega) _ (by omega)).mono ?_;rintro e w1 ⟨rfl,hb1⟩)
 go_loopw [4,7,21] (fun l at_ i wr=>l=.slice none 0 0/\at_=.int .i64 1/\i=.int .u64 0/\Below w.heap.size w wr) (fun _ _ i _=>0)
 case atStart=>exact⟨rfl,rfl,rfl,hb1⟩
 case round=>
  obtain⟨rfl,rfl,rfl,HB⟩:=hrel
  go_wp2
  go_ret2
  exact⟨rfl,HB⟩
theorem xn {c:UInt8} {l0:List Fd} {r:EN} (hw:∀f∈l0,xC f) (hl:l0.length<c.toNat) (hs:fg r=none):da (c :: (l0.flatMap dm++r))=none:=by
 cases hd:da (c :: (l0.flatMap dm++r)) with
 |none=>rfl
 |some l=>
  obtain⟨h1,h2,h3,h4⟩:=pZ hw (by omega) hd
  cases hdl:l.drop l0.length with
  |nil=>have:=congrArg List.length hdl;simp at this;omega
  |cons f t=>
   rw[h3,hdl,List.flatMap_cons,oY (iB h4 f (List.mem_of_mem_drop (by rw[hdl];exact List.mem_cons_self ..)))] at hs
   cases hs
theorem zI {c:UInt8} {l0:List Fd} {r:EN} (hw:∀f∈l0,xC f) (hl:l0.length=c.toNat):da (c :: (l0.flatMap dm++r))=if r=[]/\aK l0=true then some l0 else none:=by
 have:=iA hw r (J9 l0.length)
 rw[List.take_length,List.drop_length,hl] at this
 rw[da,this]
 cases r with
 |nil=>simp
 |cons x r=>simp
theorem wK {b pre r:EN} (h:b=pre++r) {p:Nat} (hp:p+r.length=b.length) (j:Nat):b[p+j]?=r[j]?:=by
 subst h
 have:p=pre.length:=by simp at hp;omega
 subst this
 rw[Qk (by omega)];congr 1;omega
theorem pd {b pre r:EN} (h:b=pre++r) {p:Nat} (hp:p+r.length=b.length):b.drop p=r:=by
 subst h
 have:p=pre.length:=by simp at hp;omega
 subst this
 exact List.drop_left
theorem jQ {w:EQ} {A:EL} {l:EN} (h:Rd w A (aH l)) (n c:Nat) (hn:l.length=n):(convert 44 9 (.slice A n c)).run Tryz.prog w=.ok (.string (aR l)) w:=by subst hn;exact nP h c
theorem fV (w:EQ) (u v x:ER) (T:ES):∀j y,[u,v,x][j]?=some y->(w.alloc (.cells #[u,v,x] T)).cell? ((⟨w.heap.size,0,none⟩:Addr).add j)=some y:=by
 intro j y hj
 match j with
 |0=>simp at hj;subst hj;exact bD w _ T 0 u rfl
 |1=>simp at hj;subst hj;exact bD w _ T 1 v rfl
 |2=>simp at hj;subst hj;exact bD w _ T 2 x rfl
 |j+3=>simp at hj
set_option maxRecDepth 100000 in
theorem qT (A:EL) (cp:Nat) (cnt:UInt8) (q:EN) (w:EQ) (hA:Rd w A (aH (cnt :: q))) (hl:(cnt :: q).length<=2147483647) (hcap:(cnt :: q).length<=cp):
 Calls Tryz.prog 87 #[.slice A (cnt :: q).length cp] w fun e w'=>wH (cnt :: q) e w w'/\Below w.heap.size w w':=by
 obtain⟨i0,hi,hz0,hz1,hz2⟩:=info_parts fI
 obtain⟨b,hb⟩:∃b,cnt :: q=b:=⟨_,rfl⟩
 rw[hb] at hA hl hcap |-
 have hb0:b[0]?=some cnt:=by rw[<-hb];rfl
 obtain⟨ad,rfl⟩:=hA.some_of (by rw[<-hb];simp[aH])
 have hcnt:=cnt.toNat_lt
 have HB0:=J0 hb0
 have HBQ:=J0 hb
 clear hb hb0
 go_enter Tryz.func87,Tryz.ntmps87
 go_wp2_with (go_at_call 86;refine(iI _ b.length cp b rfl 0 0 rfl cnt HB0.out _ hA (by omega)).mono ?_;rintro e w1 ⟨rfl,hb1⟩)
 go_loopw [4,7,21] (fun v a i wr=>∃(k p:Nat) (l0:List Fd) (r:EN),k<=cnt.toNat/\i=.int .u64 k/\a=.int .i64 p/\wr.ownsRow w.heap.size 68 3 v l0.length (aC l0)/\l0.length=k/\p+r.length=b.length/\Hid (q=l0.flatMap dm++r/\(∀f∈l0,xC f))/\Below w.heap.size w wr) (fun _ _ i _=>cnt.toNat - (intOf i).toNat)
 case atStart=>exact⟨0,1,[],q,by omega,rfl,rfl,ai _ _ _ _,rfl,by rw[<-HBQ.out];simp;omega,J0 ⟨rfl,by simp⟩,hb1⟩
 case round=>
  obtain⟨k,p,l0,r,hk,rfl,rfl,hown,hlk,hpr,HQ,HB⟩:=hrel
  have hAr:=hA.below HB
  clear hb1
  by_cases hlt:k<cnt.toNat
  ·have hb:b=(cnt :: l0.flatMap dm)++r:=by rw[<-HBQ.out,HQ.out.1];rfl
   have hbr:=wK hb hpr
   have hdr:=pd hb hpr
   have hstop:fg r=none->da b=none:=fun h=>by rw[hb];exact xn HQ.out.2 (by omega) h
   cases r with
   |nil=>
    have HN:=J0 (hstop rfl)
    simp only[List.length_nil,Nat.add_zero] at hpr
    subst hpr
    clear HQ HBQ HB0 hown hA hb hbr hdr hstop
    go_wp2_with (go_at_call 86;refine(kP (some ad) b.length cp _ (by omega) _ (by omega)).mono ?_;rintro e w2 ⟨rfl,hb2⟩;have HB:=HB.trans (hb2.mono HB.size);clear hb2)
    go_ret2
    exact⟨.inr ⟨HN.out,rfl⟩,HB⟩
   |cons n r=>
    have h0:=hbr 0
    have h1:=hbr (1+n.toNat)
    have h2:=hbr (1+n.toNat+1)
    rw[Xq] at hpr
    have hn:=n.toNat_lt
    rw[show p+0=p by omega] at h0
    rw[show 1+n.toNat=n.toNat+1 by omega,List.getElem?_cons_succ] at h1
    rw[show 1+n.toNat+1=n.toNat+1+1 by omega,List.getElem?_cons_succ] at h2
    have G0:=J0 h0
    clear h0 hbr
    rcases(by omega:r.length<=n.toNat\/r.length=n.toNat+1\/n.toNat+2<=r.length) with hc|hc|hc
    ·have HN:=J0 (hstop (by rw[fg,Xy (by omega)]))
     have tok1:=Yz
     clear HQ HBQ HB0 hown hA hb hdr hstop h1 h2
     go_wp2_with (first
      |(have _t:=tok1;go_at_call 86;refine(iI (some ad) b.length cp b rfl _ p rfl n G0.out _ hAr (by omega)).mono ?_;rintro e w2 ⟨rfl,hb2⟩;have HB:=HB.trans (hb2.mono HB.size);have hAr:=hAr.below hb2;clear tok1 hb2)
      |(go_at_call 86;refine(kP (some ad) b.length cp _ (by omega) _ (by omega)).mono ?_;rintro e w2 ⟨rfl,hb2⟩;have HB:=HB.trans (hb2.mono HB.size);clear hb2))
     go_ret2
     exact⟨.inr ⟨HN.out,rfl⟩,HB⟩
    ·have HN:=J0 (hstop (by rw[fg,Xy (by omega)]))
     obtain⟨x1,hx1⟩:∃x,r[n.toNat]?=some x:=⟨_,J4 (by omega)⟩
     rw[hx1] at h1
     have G1:=J0 h1
     have tok1:=Yz
     clear HQ HBQ HB0 hown hA hb hdr hstop h1 h2 hx1
     go_wp2_with (first
      |(have _t:=tok1;go_at_call 86;refine(iI (some ad) b.length cp b rfl _ p rfl n G0.out _ hAr (by omega)).mono ?_;rintro e w2 ⟨rfl,hb2⟩;have HB:=HB.trans (hb2.mono HB.size);have hAr:=hAr.below hb2;clear tok1 hb2;have tok2:=Yz)
      |(have _t:=tok2;go_at_call 86;refine(iI (some ad) b.length cp b rfl _ (p+(n.toNat+1)) (by omega) x1 G1.out _ hAr (by omega)).mono ?_;rintro e w2 ⟨rfl,hb2⟩;have HB:=HB.trans (hb2.mono HB.size);have hAr:=hAr.below hb2;clear tok2 hb2)
      |(go_at_call 86;refine(kP (some ad) b.length cp _ (by omega) _ (by omega)).mono ?_;rintro e w2 ⟨rfl,hb2⟩;have HB:=HB.trans (hb2.mono HB.size);clear hb2))
     go_ret2
     exact⟨.inr ⟨HN.out,rfl⟩,HB⟩
    ·obtain⟨x1,hx1⟩:∃x,r[n.toNat]?=some x:=⟨_,J4 (by omega)⟩
     obtain⟨x2,hx2⟩:∃x,r[n.toNat+1]?=some x:=⟨_,J4 (by omega)⟩
     rw[hx1] at h1
     rw[hx2] at h2
     have G1:=J0 h1
     have G2:=J0 h2
     have hstep:fg (n :: r)=some (⟨aR (r.take n.toNat),x1.toNat,x2.toNat⟩,r.drop (n.toNat+2)):=by
      rw[fg,Xz hc,Yy,Yy,hx1,hx2];rfl
     obtain⟨hrow,hwf⟩:=oR hstep
     have hx1b:=x1.toNat_lt
     have hx2b:=x2.toNat_lt
     have tok1:=Yz
     have HRow:=J0 hrow
     have HWf:=J0 hwf
     have hd1:(b.drop (p+1)).take n.toNat=r.take n.toNat:=by
      have:b.drop (p+1)=r:=by rw[<-List.drop_drop,hdr];rfl
      rw[this]
     have HD1:=J0 hd1
     have hcv:∀W:EQ,Rd W (some ad) (aH b)->(convert 44 9 (.slice (some ⟨ad.block,ad.off+(p+1),none⟩) n.toNat (cp - (p+1)))).run Tryz.prog W=.ok (.string (aR (r.take n.toNat))) W:=fun W hR=>by
      have:=hR.slice (p+1) n.toNat
      rw[HD1.out,Addr.add_succ'] at this
      exact jQ this _ _ (by rw[Qx];omega)
     have HCV:=J0 hcv
     have s1:(p:Int)+1<=(p:Int)+1+(n.toNat:Int):=by omega
     have s2:(p:Int)+1+(n.toNat:Int)<=(cp:Int):=by omega
     have s3:¬cp=p+1:=by omega
     have s4:((p:Int)+1).toNat=p+1:=by omega
     have s5:((p:Int)+1+(n.toNat:Int)).toNat=p+1+n.toNat:=by omega
     clear HB0 hA hb hdr hstop h1 h2 hx1 hx2 hstep hrow hwf hd1 hcv
     go_wp2_with (first
      |(have _t:=tok1;go_at_call 86;refine(iI (some ad) b.length cp b rfl _ p rfl n G0.out _ hAr (by omega)).mono ?_;rintro e w2 ⟨rfl,hb2⟩;have HB:=HB.trans (hb2.mono HB.size);have hAr:=hAr.below hb2;have hown:=aG hown hb2;clear tok1 hb2;have tok2:=Yz)
      |(have _t:=tok2;go_at_call 86;refine(iI (some ad) b.length cp b rfl _ (p+(n.toNat+1)) (by omega) x1 G1.out _ hAr (by omega)).mono ?_;rintro e w2 ⟨rfl,hb2⟩;have HB:=HB.trans (hb2.mono HB.size);have hAr:=hAr.below hb2;have hown:=aG hown hb2;clear tok2 hb2;have tok3:=Yz)
      |(have _t:=tok3;go_at_call 86;refine(iI (some ad) b.length cp b rfl _ (p+(n.toNat+1+1)) (by omega) x2 G2.out _ hAr (by omega)).mono ?_;rintro e w2 ⟨rfl,hb2⟩;have HB:=HB.trans (hb2.mono HB.size);have hAr:=hAr.below hb2;have hown:=aG hown hb2;clear tok3 hb2;have hcv:=HCV.out _ hAr)
      |(at_builtin;refine Y5 _ rfl _ _ 27 rfl w.heap.size 68 i0 (.agg #[.string ⟨#[]⟩,.int .i64 0,.int .i64 0]) 3 32 Tryz.underlying27 hi hz0 hz1 hz2 rfl (by decide) _ _ _ rfl (hown.alloc _) ⟨w2.heap.size,0,none⟩ 1 1 [.string (aR (r.take n.toNat)),.int .i64 x1.toNat,.int .i64 x2.toNat] rfl rfl ?c1 ?c2 ?c3 ?c4 ?c5 ?_))
     case c1=>exact fV _ _ _ _ _
     case c2=>intro u hu;simp at hu;rcases hu with rfl|rfl|rfl <;> rfl
     case c3=>simp only[maxLen];omega
     case c4=>omega
     case c5=>have:=HB.size;simp;omega
     intro v' w3 hown' hgrow _
     have hs2:=HB.size
     have HB3:=(HB.alloc hs2 (.cells #[.string (aR (r.take n.toNat)),.int .i64 x1.toNat,.int .i64 x2.toNat] 68)).grown hgrow (by simp;omega) (fun q hq=>aF hown q hq)
     have hown3:w3.ownsRow w.heap.size 68 3 v' (l0++[(⟨aR (r.take n.toNat),x1.toNat,x2.toNat⟩:Fd)]).length (aC (l0++[⟨aR (r.take n.toNat),x1.toNat,x2.toNat⟩])):=
      ag hown' (by simp[hlk]) (by rw[eB];rfl)
     clear hown' hgrow hown hcv
     go_wp2
     go_roundw
     case rel=>
      refine⟨k+1,p+1+n.toNat+2,l0++[⟨aR (r.take n.toNat),x1.toNat,x2.toNat⟩],r.drop (n.toNat+2),by omega,by go_num,by go_num,hown3,by simp;omega,by simp;omega,J0 ⟨?_,?_⟩,HB3⟩
      ·rw[HQ.out.1,HRow.out];simp
      ·intro f hf
       rcases X5.1 hf with hf|hf
       ·exact HQ.out.2 f hf
       ·simp at hf;subst hf;exact HWf.out
     case measure=>simp[intOf];omega
  ·obtain rfl:k=cnt.toNat:=by omega
   have hend:=zI (c:=cnt) HQ.out.2 hlk (r:=r)
   rw[<-HQ.out.1,HBQ.out] at hend
   cases r with
   |nil=>
    simp only[List.length_nil,Nat.add_zero] at hpr
    subst hpr
    obtain⟨B,c',rfl,_,_,hrd⟩:=aL hown
    have hl16:l0.length<=9223372036854775807:=by have:=cnt.toNat_lt;omega
    cases hr:aK l0
    ·rw[hr] at hend
     have HN:Hid (da b=none):=J0 (by rw[hend];simp)
     have HR:=J0 hr
     clear hend hr hA hAr HQ HBQ HB0 hlk
     go_wp2_with (go_at_call 62;refine(dA B c' l0 _ HR.out _ hrd hl16).mono ?_;rintro e w2 ⟨rfl,hb2⟩;have HB:=HB.trans (hb2.mono HB.size);clear hb2)
     go_ret2
     exact⟨.inr ⟨HN.out,rfl⟩,HB⟩
    ·rw[hr] at hend
     have HN:Hid (da b=some l0):=J0 (by rw[hend];simp)
     have HR:=J0 hr
     clear hend hr hA hAr HQ HBQ HB0 hlk
     go_wp2_with (go_at_call 62;refine(dA B c' l0 _ HR.out _ hrd hl16).mono ?_;rintro e w2 ⟨rfl,hb2⟩;have HB:=HB.trans (hb2.mono HB.size);have hown2:=aG hown hb2;clear hb2)
     go_ret2
     exact⟨.inl ⟨_,_,HN.out,rfl,hown2⟩,HB⟩
   |cons x r=>
    have HN:Hid (da b=none):=J0 (by rw[hend];simp)
    rw[Xq] at hpr
    have hne:((p:Int) != (b.length:Int))=true:=by simp;omega
    clear hend hA hAr HQ HBQ HB0 hlk
    go_wp2
    go_ret2
    exact⟨.inr ⟨HN.out,rfl⟩,HB⟩
theorem ow (A:EL) (c:Nat) (b:EN) (w:EQ) (hA:Rd w A (aH b)) (hl:b.length<=2147483647) (hcap:b.length<=c):
 Calls Tryz.prog 87 #[.slice A b.length c] w fun e w'=>wH b e w w'/\Below w.heap.size w w':=by
 cases b with
 |nil=>
  refine(sI A c w).mono ?_
  rintro e w' ⟨rfl,hb⟩
  exact⟨.inr ⟨rfl,rfl⟩,hb⟩
 |cons x q=>exact qT A c x q w hA hl hcap
theorem kH (A:EL) (c:Nat) (fs:List Fd) (r:Bool) (h:aK fs=r) (w:EQ) (hA:Rd w A (aC fs)) (hl:fs.length<=9223372036854775807) (hs:∀f∈fs,f.s.size<=9223372036854775807):
 Calls Tryz.prog 77 #[.slice A fs.length c] w fun e w'=>e=.returned (.bool r)/\Below w.heap.size w w':=h▸pO A c fs w hA hl hs
theorem jr (s:EP) (i j:Nat):bl (s.extract i j)=((bl s).drop i).take (j - i):=by
 simp[bl,ByteArray.data_extract]
theorem vX (s n:EP) (k long:Int) (hs:s.size<=9223372036854775807) (v:Vl) (q:Int) (hv:jy (bl s) k long=v.v) (hq:dq (bl s) k long=q) (w:EQ):
 Calls Tryz.prog 93 #[.string s,.agg #[.string n,.int .i64 k,.int .i64 long]] w fun e w'=>e=.returned (.tuple #[.agg #[.int .i64 v.k,.int .u64 v.b,.string v.t],.int .i64 q])/\Below w.heap.size w w':=by
 subst hq
 have:=pL s n k long hs w
 rw[hv] at this
 exact this
theorem ez (n:Int) (h0:0<=n) (h1:n<256) (p:EP) (hp:aR [UInt8.ofNat n.toNat]=p) (w:EQ):Calls Tryz.prog 83 #[.int .i64 1,.int .u64 n] w fun e w'=>e=.returned (.string p)/\Below w.heap.size w w':=by
 have:=kK n 1 (by omega) h0 (by omega) w
 have e:rJ n 1=[UInt8.ofNat n.toNat]:=by
  have hf:bi n 1 false=true:=by simp[bi,af,fA];omega
  rw[show ((1:Nat):Int)=1 from rfl] at *
  rw[rJ]
  rw[show ((1:Nat):Int)=1 from rfl,Xz hf]
  simp[dG,dx]
  congr 2
  omega
 rw[e,hp] at this
 exact this
theorem tr (A:EL) (c:Nat) (fs:List Fd) (hr:aK fs=false) (w:EQ) (hA:Rd w A (aC fs)) (hl:fs.length<=9223372036854775807) (hs:∀f∈fs,f.s.size<=9223372036854775807):
 Calls Tryz.prog 123 #[.slice A fs.length c] w fun e w'=>e=.returned (.tuple #[.string ⟨#[]⟩,.int .i64 60])/\Below w.heap.size w w':=by
 have HR:=J0 hr
 clear hr
 go_enter Tryz.func123,Tryz.ntmps123
 go_wp2_with (go_at_call 77;refine(kH _ _ _ _ HR.out _ hA hl hs).mono ?_;rintro e w1 ⟨rfl,hb1⟩)
 go_ret2
 exact⟨rfl,hb1⟩
theorem rR (A:EL) (c:Nat) (fs:List Fd) (hr:aK fs=true) (w:EQ) (hA:Rd w A (aC fs)) (hl:fs.length<=9223372036854775807) (hs:∀f∈fs,f.s.size<=9223372036854775807):
 Calls Tryz.prog 123 #[.slice A fs.length c] w fun e w'=>e=.returned (.tuple #[.string (aR (eQ fs)),.int .i64 0])/\Below w.heap.size w w':=by
 obtain⟨hmay,h16⟩:=aQ hr
 have hnm:=fun f hf=>jT (gY hr (f:=f) hf)
 have HR:=J0 hr
 have HP0:Hid (aR [UInt8.ofNat ((fs.length:Nat):Int).toNat]=aR (cW fs 0)):=J0 (by simp[cW])
 clear hr
 go_enter Tryz.func123,Tryz.ntmps123
 go_wp2_with (first
  |(go_at_call 77;refine(kH _ _ _ _ HR.out _ hA hl hs).mono ?_;rintro e w1 ⟨rfl,hb1⟩)
  |(go_at_call 83;refine(ez (fs.length:Int) (by omega) (by omega) _ HP0.out _).mono ?_;rintro e w2 ⟨rfl,hb2⟩;have HB0:=hb1.trans (hb2.mono hb1.size)))
 go_loopw [4,5] (fun v i wr=>∃k:Nat,k<=fs.length/\i=.int .i64 k/\v=.string (aR (cW fs k))/\Below w.heap.size w wr) (fun _ i _=>fs.length - (intOf i).toNat)
 case atStart=>exact⟨0,by omega,rfl,rfl,HB0⟩
 case round=>
  obtain⟨k,hk,rfl,rfl,HB⟩:=hrel
  clear HB0 hb1 hb2
  have hAr:=hA.below HB
  by_cases hlt:k<fs.length
  ·obtain⟨f,hf⟩:∃f,fs[k]?=some f:=⟨_,J4 hlt⟩
   obtain⟨ad,rfl,c0,c1,c2⟩:=hAr.fld hf
   have hfm:=J7 hf
   obtain⟨n1,n2⟩:=hnm f hfm
   obtain⟨m1,m2,m3,m4⟩:=lI (hmay f hfm)
   have hsucc:=oB hf
   have hpl:(cW fs k).length<=400:=by
    have:=ir (fs.take k) (fun g hg=>(hnm g (List.mem_of_mem_take hg)).2)
    rw[Qx] at this
    simp only[cW,Xq];omega
   obtain⟨acc,hacc⟩:∃a,aR (cW fs k)=a:=⟨_,rfl⟩
   have hal:acc.size<=400:=by rw[<-hacc,aj];exact hpl
   obtain⟨p1,hp1⟩:∃p,aR [UInt8.ofNat ((f.s.size:Nat):Int).toNat]=p:=⟨_,rfl⟩
   obtain⟨p2,hp2⟩:∃p,aR [UInt8.ofNat f.k.toNat]=p:=⟨_,rfl⟩
   obtain⟨p3,hp3⟩:∃p,aR [UInt8.ofNat f.l.toNat]=p:=⟨_,rfl⟩
   have l1:p1.size=1:=by rw[<-hp1,aj];rfl
   have l2:p2.size=1:=by rw[<-hp2,aj];rfl
   have l3:p3.size=1:=by rw[<-hp3,aj];rfl
   have hend:acc++p1++f.s++p2++p3=aR (cW fs (k+1)):=by
    rw[hsucc,<-hacc,<-hp1,<-hp2,<-hp3]
    conv=>lhs;rw[<-cl f.s]
    rw[bT,bT,bT,bT]
    congr 1
    simp[dm,fi,cl]
   have z1:¬9223372036854775807<acc.size+p1.size:=by omega
   have z2:¬9223372036854775807<acc.size+p1.size+f.s.size:=by omega
   have z3:¬9223372036854775807<acc.size+p1.size+f.s.size+p2.size:=by omega
   have z4:¬9223372036854775807<acc.size+p1.size+f.s.size+p2.size+p3.size:=by omega
   rw[hacc]
   have b1:(0:Int)<=(f.s.size:Int):=by omega
   have b2:(f.s.size:Int)<256:=by omega
   have b4:f.k<256:=by omega
   have b6:f.l<256:=by omega
   have w1:IntKind.u64.wrap (f.s.size:Int)=(f.s.size:Int):=IntWalk.u64_in _ (by omega)
   have w2:IntKind.u64.wrap f.k=f.k:=IntWalk.u64_in _ (by omega)
   have w3:IntKind.u64.wrap f.l=f.l:=IntWalk.u64_in _ (by omega)
   have P1:=J0 hp1
   have P2:=J0 hp2
   have P3:=J0 hp3
   have HE:=J0 hend
   have hi0:(0:Int)<=(k:Int):=by omega
   have hi2:(k:Int)<(fs.length:Int):=by omega
   clear hp1 hp2 hp3 hend hacc hsucc l1 l2 l3 hf hA hAr hs hfm hnm
   go_wp2
   refine RW.start (fun w'=>Below w.heap.size w w'/\w'.cell? (ad.add (k * 3))=some (.string f.s)/\w'.cell? ⟨(ad.add (k * 3)).block,(ad.add (k * 3)).off+(0+1),none⟩=some (.int .i64 f.k)/\w'.cell? ⟨(ad.add (k * 3)).block,(ad.add (k * 3)).off+(1+1),none⟩=some (.int .i64 f.l)) (by kernel_rfl) (by kernel_rfl) ⟨HB.drew,c0,c1,c2⟩ ?_
   clear HB c0 c1 c2
   repeat (first
    |(refine' RW.val (by rfl) ?_ ?_;rotate_left;(focus (intro w' hS;obtain⟨HB,c0,c1,c2⟩:=hS;go_simp;rfl));simp only[Act.put,J1,J3,J2])
    |(refine RW.off (by rfl) ?_;simp only[Act.put,J1,J3,J2])
    |(refine' RW.call (by rfl) ?_ ?_ ?_
      rotate_left 3
      (focus (intro w' hS;obtain⟨HB,c0,c1,c2⟩:=hS;go_simp;exact⟨rfl,rfl⟩))
      (focus
        intro w' hS
        obtain⟨HB,c0,c1,c2⟩:=hS
        first
         |((with_reducible refine(ez (f.s.size:Int) b1 b2 _ P1.out _).mono ?_);rintro e w1 ⟨rfl,hb⟩;exact⟨rfl,⟨(aB HB hb),(aE (B:=0) hb c0),(aE (B:=0) hb c1),(aE (B:=0) hb c2)⟩⟩)
         |((with_reducible refine(ez f.k m1 b4 _ P2.out _).mono ?_);rintro e w1 ⟨rfl,hb⟩;exact⟨rfl,⟨(aB HB hb),(aE (B:=0) hb c0),(aE (B:=0) hb c1),(aE (B:=0) hb c2)⟩⟩)
         |((with_reducible refine(ez f.l m3 b6 _ P3.out _).mono ?_);rintro e w1 ⟨rfl,hb⟩;exact⟨rfl,⟨(aB HB hb),(aE (B:=0) hb c0),(aE (B:=0) hb c1),(aE (B:=0) hb c2)⟩⟩))
      simp only[Act.put,J1,J3,J2]))
   refine RW.done (fun w' hS=>?_)
   obtain⟨HB,c0,c1,c2⟩:=hS
   clear w1 w2 w3
   go_wp2
   go_roundw
   case rel=>exact⟨k+1,by omega,by go_num,by rw[HE.out],HB⟩
   case measure=>simp[intOf];omega
  ·obtain rfl:k=fs.length:=by omega
   have e:cW fs fs.length=eQ fs:=by rw[cW,List.take_length];rfl
   rw[e]
   clear hA hAr e
   go_wp2
   go_ret2
   exact⟨rfl,HB⟩
theorem jJ (A:EL) (c:Nat) (fs:List Fd) (w:EQ) (hA:Rd w A (aC fs)) (hl:fs.length<=9223372036854775807) (hs:∀f∈fs,f.s.size<=9223372036854775807):
 Calls Tryz.prog 123 #[.slice A fs.length c] w fun e w'=>e=.returned (.tuple #[.string (aR (kN fs)),.int .i64 (uS fs)])/\Below w.heap.size w w':=by
 cases hr:aK fs
 ·have e1:kN fs=[]:=by simp[kN,hr]
  have e2:uS fs=60:=by simp[uS,hr]
  rw[e1,e2]
  exact tr A c fs hr w hA hl hs
 ·have e1:kN fs=eQ fs:=by simp[kN,hr]
  have e2:uS fs=0:=by simp[uS,hr]
  rw[e1,e2]
  exact rR A c fs hr w hA hl hs
instance:DecidableEq Fd:=fun a b=>decidable_of_iff (a.s=b.s/\a.k=b.k/\a.l=b.l) (by cases a;cases b;simp)
def bh (a b:List Fd):Bool:=decide (a=b)
theorem og (a b:EP):a.toList=b.toList↔a=b:=by
 constructor
 ·intro h
  simp only[ByteArray.toList_eq] at h
  have:a.data=b.data:=Array.toList_inj.1 h
  cases a;cases b;simp_all
 ·intro h;rw[h]
theorem wU (x y:Fd):(¬x=y/\¬x.s.toList=y.s.toList)\/(¬x=y/\x.s.toList=y.s.toList/\¬x.k=y.k)\/(¬x=y/\x.s.toList=y.s.toList/\x.k=y.k/\¬x.l=y.l)\/(x=y/\x.s.toList=y.s.toList/\x.k=y.k/\x.l=y.l):=by
 simp only[og]
 have e:x=y↔x.s=y.s/\x.k=y.k/\x.l=y.l:=by cases x;cases y;simp
 rw[e]
 by_cases h1:x.s=y.s <;> by_cases h2:x.k=y.k <;> by_cases h3:x.l=y.l <;> simp[h1,h2,h3]
theorem uD (A B:EL) (c d:Nat) (a b:List Fd) (w:EQ) (hA:Rd w A (aC a)) (hB:Rd w B (aC b)) (ha:a.length<=9223372036854775807) (hb:b.length<=9223372036854775807):
 Calls Tryz.prog 22 #[.slice A a.length c,.slice B b.length d] w fun e w'=>e=.returned (.bool (bh a b))/\Below w.heap.size w w':=by
 by_cases hlen:a.length=b.length
 ·have hz:((a.length:Int) != (b.length:Int))=false:=by rw[hlen];simp
  obtain⟨r,hr⟩:∃r,bh a b=r:=⟨_,rfl⟩
  rw[hr]
  have HR:=J0 hr
  have HL:=J0 hlen
  clear hr
  obtain⟨m,hm⟩:∃m,b.length=m:=⟨_,rfl⟩
  rw[hm] at hz hlen |-
  have HM:=J0 hm
  clear hm hlen hb
  go_enter Tryz.func22,Tryz.ntmps22
  go_wp2
  go_loopw [5] (fun i wr=>∃k:Nat,k<=a.length/\i=.int .i64 k/\Below w.heap.size w wr/\Hid (a.take k=b.take k)) (fun i _=>a.length - (intOf i).toNat)
  case atStart=>exact⟨0,by omega,rfl,Jy _ _,J0 rfl⟩
  case round=>
   obtain⟨k,hk,rfl,HB,hall⟩:=hrel
   have hAr:=hA.below HB
   have hBr:=hB.below HB
   clear hA hB
   by_cases hlt:k<a.length
   ·have hlb:k<m:=by have:=HL.out;have:=HM.out;omega
    obtain⟨x,hx⟩:∃x,a[k]?=some x:=⟨_,J4 hlt⟩
    obtain⟨y,hy⟩:∃y,b[k]?=some y:=⟨_,J4 (by rw[HM.out];exact hlb)⟩
    obtain⟨ad,rfl,c0,c1,c2⟩:=hAr.fld hx
    obtain⟨bd,rfl,d0,d1,d2⟩:=hBr.fld hy
    have HX:=J0 hx
    have HY:=J0 hy
    clear hx hy hAr hBr
    have hi0:(0:Int)<=(k:Int):=by omega
    have hi1:(k:Int)<(a.length:Int):=by omega
    have hi2:(k:Int)<(m:Int):=by omega
    go_wp2
    rcases wU x y with ⟨hne,h1⟩|⟨hne,h1,h2⟩|⟨hne,h1,h2,h3⟩|⟨he,h1,h2,h3⟩
    ·obtain rfl:r=false:=by
      rw[<-HR.out];simp[bh];intro e
      have h1:=HX.out;rw[e,HY.out] at h1;exact hne (Jj h1).symm
     clear hne hall
     refine RW.start (fun w'=>Below w.heap.size w w'/\(w'.cell? (ad.add (k * 3))=some (.string x.s)/\w'.cell? ⟨(ad.add (k * 3)).block,(ad.add (k * 3)).off+(0+1),none⟩=some (.int .i64 x.k)/\w'.cell? ⟨(ad.add (k * 3)).block,(ad.add (k * 3)).off+(1+1),none⟩=some (.int .i64 x.l))/\(w'.cell? (bd.add (k * 3))=some (.string y.s)/\w'.cell? ⟨(bd.add (k * 3)).block,(bd.add (k * 3)).off+(0+1),none⟩=some (.int .i64 y.k)/\w'.cell? ⟨(bd.add (k * 3)).block,(bd.add (k * 3)).off+(1+1),none⟩=some (.int .i64 y.l))) (by kernel_rfl) (by kernel_rfl) ⟨HB.drew,⟨c0,c1,c2⟩,d0,d1,d2⟩ ?_
     clear HB c0 c1 c2 d0 d1 d2
     repeat (first
      |(refine' RW.val (by rfl) ?_ ?_;rotate_left;(focus (intro w' hS;obtain⟨HB,⟨c0,c1,c2⟩,d0,d1,d2⟩:=hS;go_simp;rfl));simp only[Act.put,J1,J3,J2])
      |(refine RW.off (by rfl) ?_;simp only[Act.put,J1,J3,J2]))
     refine RW.done (fun w' hS=>?_)
     obtain⟨HB,⟨c0,c1,c2⟩,d0,d1,d2⟩:=hS
     go_wp2
     go_ret
     exact⟨rfl,HB⟩
    ·obtain rfl:r=false:=by
      rw[<-HR.out];simp[bh];intro e
      have h1:=HX.out;rw[e,HY.out] at h1;exact hne (Jj h1).symm
     clear hne hall
     refine RW.start (fun w'=>Below w.heap.size w w'/\(w'.cell? (ad.add (k * 3))=some (.string x.s)/\w'.cell? ⟨(ad.add (k * 3)).block,(ad.add (k * 3)).off+(0+1),none⟩=some (.int .i64 x.k)/\w'.cell? ⟨(ad.add (k * 3)).block,(ad.add (k * 3)).off+(1+1),none⟩=some (.int .i64 x.l))/\(w'.cell? (bd.add (k * 3))=some (.string y.s)/\w'.cell? ⟨(bd.add (k * 3)).block,(bd.add (k * 3)).off+(0+1),none⟩=some (.int .i64 y.k)/\w'.cell? ⟨(bd.add (k * 3)).block,(bd.add (k * 3)).off+(1+1),none⟩=some (.int .i64 y.l))) (by kernel_rfl) (by kernel_rfl) ⟨HB.drew,⟨c0,c1,c2⟩,d0,d1,d2⟩ ?_
     clear HB c0 c1 c2 d0 d1 d2
     repeat (first
      |(refine' RW.val (by rfl) ?_ ?_;rotate_left;(focus (intro w' hS;obtain⟨HB,⟨c0,c1,c2⟩,d0,d1,d2⟩:=hS;go_simp;rfl));simp only[Act.put,J1,J3,J2])
      |(refine RW.off (by rfl) ?_;simp only[Act.put,J1,J3,J2]))
     refine RW.done (fun w' hS=>?_)
     obtain⟨HB,⟨c0,c1,c2⟩,d0,d1,d2⟩:=hS
     go_wp2
     go_ret
     exact⟨rfl,HB⟩
    ·obtain rfl:r=false:=by
      rw[<-HR.out];simp[bh];intro e
      have h1:=HX.out;rw[e,HY.out] at h1;exact hne (Jj h1).symm
     clear hne hall
     refine RW.start (fun w'=>Below w.heap.size w w'/\(w'.cell? (ad.add (k * 3))=some (.string x.s)/\w'.cell? ⟨(ad.add (k * 3)).block,(ad.add (k * 3)).off+(0+1),none⟩=some (.int .i64 x.k)/\w'.cell? ⟨(ad.add (k * 3)).block,(ad.add (k * 3)).off+(1+1),none⟩=some (.int .i64 x.l))/\(w'.cell? (bd.add (k * 3))=some (.string y.s)/\w'.cell? ⟨(bd.add (k * 3)).block,(bd.add (k * 3)).off+(0+1),none⟩=some (.int .i64 y.k)/\w'.cell? ⟨(bd.add (k * 3)).block,(bd.add (k * 3)).off+(1+1),none⟩=some (.int .i64 y.l))) (by kernel_rfl) (by kernel_rfl) ⟨HB.drew,⟨c0,c1,c2⟩,d0,d1,d2⟩ ?_
     clear HB c0 c1 c2 d0 d1 d2
     repeat (first
      |(refine' RW.val (by rfl) ?_ ?_;rotate_left;(focus (intro w' hS;obtain⟨HB,⟨c0,c1,c2⟩,d0,d1,d2⟩:=hS;go_simp;rfl));simp only[Act.put,J1,J3,J2])
      |(refine RW.off (by rfl) ?_;simp only[Act.put,J1,J3,J2]))
     refine RW.done (fun w' hS=>?_)
     obtain⟨HB,⟨c0,c1,c2⟩,d0,d1,d2⟩:=hS
     go_wp2
     go_ret
     exact⟨rfl,HB⟩
    ·have hall2:Hid (a.take (k+1)=b.take (k+1)):=J0 (by rw[Vv,Vv,hall.out,HX.out,HY.out,he])
     clear he hall
     refine RW.start (fun w'=>Below w.heap.size w w'/\(w'.cell? (ad.add (k * 3))=some (.string x.s)/\w'.cell? ⟨(ad.add (k * 3)).block,(ad.add (k * 3)).off+(0+1),none⟩=some (.int .i64 x.k)/\w'.cell? ⟨(ad.add (k * 3)).block,(ad.add (k * 3)).off+(1+1),none⟩=some (.int .i64 x.l))/\(w'.cell? (bd.add (k * 3))=some (.string y.s)/\w'.cell? ⟨(bd.add (k * 3)).block,(bd.add (k * 3)).off+(0+1),none⟩=some (.int .i64 y.k)/\w'.cell? ⟨(bd.add (k * 3)).block,(bd.add (k * 3)).off+(1+1),none⟩=some (.int .i64 y.l))) (by kernel_rfl) (by kernel_rfl) ⟨HB.drew,⟨c0,c1,c2⟩,d0,d1,d2⟩ ?_
     clear HB c0 c1 c2 d0 d1 d2
     repeat (first
      |(refine' RW.val (by rfl) ?_ ?_;rotate_left;(focus (intro w' hS;obtain⟨HB,⟨c0,c1,c2⟩,d0,d1,d2⟩:=hS;go_simp;rfl));simp only[Act.put,J1,J3,J2])
      |(refine RW.off (by rfl) ?_;simp only[Act.put,J1,J3,J2]))
     refine RW.done (fun w' hS=>?_)
     obtain⟨HB,⟨c0,c1,c2⟩,d0,d1,d2⟩:=hS
     go_wp2
     go_roundw
     case rel=>exact⟨k+1,by omega,by go_num,HB,hall2⟩
     case measure=>simp[intOf];omega
   ·obtain rfl:k=a.length:=by omega
    obtain rfl:r=true:=by
     rw[<-HR.out];have h:=hall.out
     rw[List.take_length,HL.out,List.take_length] at h
     simpa[bh] using h
    clear hAr hBr
    go_wp2
    go_ret
    exact⟨rfl,HB⟩
 ·have hz:((a.length:Int) != (b.length:Int))=true:=by simp;omega
  have hr:bh a b=false:=by simp[bh];intro e;exact hlen (by rw[e])
  rw[hr]
  clear hr hlen
  go_enter Tryz.func22,Tryz.ntmps22
  go_wp2
  go_ret
  exact⟨rfl,Jy _ _⟩
end
end Go.Proofs.YteembinfgbapgaaGreat
