/- Merged out of: Gf Gg Gh Gi Gj. -/
import Derived.Test.YteembinfgbapgaaGreatA06
import Derived.RangeFuncNested
import Derived.RangeFuncBox
import Derived.RangeFuncLeaves
import Derived.RangeFuncCalls
import Derived.Shelf.Abstract
import Derived.OwnWalkIn
import Derived.TacticsInMore
import Derived.LoopNIn
import Derived.LoopIn
import Derived.Maps.AppendAt
set_option linter.unusedSimpArgs false
set_option linter.unusedVariables false
set_option maxRecDepth 100000
set_option maxHeartbeats 8000000
namespace Go.Proofs.YteembinfgbapgaaGreat
section
open Go.RowKit
def Fd.n (f:Fd):Nat:=(longZ f.k f.l).toNat
theorem Fd.n_eq (f:Fd):(f.n:Int)=longZ f.k f.l:=by have:=long_ge f.k f.l;unfold Fd.n;omega
theorem Fd.n_le (f:Fd):f.n≤64:=by have:=long_ge f.k f.l;unfold Fd.n;omega
theorem Fd.n_pos {f:Fd} (h:mayB f.k f.l=true):0<f.n:=by
 have:=long_ge f.k f.l
 have:¬longZ f.k f.l=0:=fun e=>by rw[(long_zero _ _).1 e] at h;cases h
 unfold Fd.n;omega
def atF (nx:Nat) (f:Fd):Nat:=if f.k=12 then nx else upN nx f.n
def endF:Nat→List Fd→Nat
 |nx,[]=>nx
 |nx,f :: r=>endF (atF nx f+f.n) r
def seqF:Nat→List Fd→List (Nat×Fd)
 |_,[]=>[]
 |nx,f :: r=>(atF nx f,f) :: seqF (atF nx f+f.n) r
theorem endF_snoc (nx:Nat) (a:List Fd) (f:Fd):endF nx (a++[f])=atF (endF nx a) f+f.n:=by
 induction a generalizing nx with
 |nil=>rfl
 |cons g r ih=>exact ih _
theorem seqF_snoc (nx:Nat) (a:List Fd) (f:Fd):seqF nx (a++[f])=seqF nx a++[(atF (endF nx a) f,f)]:=by
 induction a generalizing nx with
 |nil=>rfl
 |cons g r ih=>simp only[List.cons_append,seqF,ih,endF]
theorem seqF_length (nx:Nat) (a:List Fd):(seqF nx a).length=a.length:=by
 induction a generalizing nx with
 |nil=>rfl
 |cons g r ih=>simp[seqF,ih]
def MayF (fs:List Fd):Prop:=∀f∈fs,mayB f.k f.l=true
theorem upN_le (a n:Nat) (h:0<n):upN a n≤a+n - 1∧a≤upN a n:=by
 unfold upN
 have h1:=Nat.div_mul_le_self (a+n - 1) n
 have h2:=Nat.lt_div_mul_add h (a:=a+n - 1)
 omega
theorem atF_le {nx:Nat} {f:Fd} (h:mayB f.k f.l=true):atF nx f≤nx+63∧nx≤atF nx f:=by
 unfold atF
 split
 ·omega
 ·have:=upN_le nx f.n (Fd.n_pos h)
  have:=f.n_le
  omega
theorem endF_le {nx:Nat} {fs:List Fd} (h:MayF fs):endF nx fs≤nx+128 * fs.length:=by
 induction fs generalizing nx with
 |nil=>simp[endF]
 |cons g r ih=>
  have h1:=atF_le (nx:=nx) (h g (List.mem_cons_self ..))
  have h2:=g.n_le
  have h3:=ih (nx:=atF nx g+g.n) (fun f hf=>h f (List.mem_cons_of_mem _ hf))
  rw[endF,List.length_cons];omega
theorem MayF.take {fs:List Fd} (h:MayF fs) (k:Nat):MayF (fs.take k):=fun f hf=>h f (List.mem_of_mem_take hf)
abbrev PF:={ x:Nat×Fd // x.1≤1000000 }
def encPF (x:PF):Array Value:=#[.int .i64 (x.1.1:Int),.agg #[.string x.1.2.s,.int .i64 x.1.2.k,.int .i64 x.1.2.l]]
structure KpF (n₀:Nat) (W W':World):Prop where
 below:Below n₀ W W'
 fld:∀(b:Nat) (cs:Array Value) (d:Nat×Nat),W.heap[b]?=some (.cells cs 68 d)→W'.heap[b]?=some (.cells cs 68 d)
theorem KpF.trans {n₀:Nat} {A B C:World} (h:KpF n₀ A B) (k:KpF n₀ B C):KpF n₀ A C:=⟨h.below.trans k.below,fun b cs d hb=>k.fld b cs d (h.fld b cs d hb)⟩
theorem KpF.of_below {n₀:Nat} {A B:World} (h:Below A.heap.size A B) (hn:n₀≤A.heap.size):KpF n₀ A B:=⟨h.mono hn,fun b cs d hb=>(h.block b (Array.getElem?_eq_some_iff.1 hb).1).trans hb⟩
theorem KpF.putObj {n₀:Nat} {w:World} (hn:n₀≤w.heap.size) (W:World) (l:Nat) (o o':Obj) (hl:w.heap.size≤l) (h:W.heap[l]?=some o) (hc:o.isCells=false) (hw:o.isWalk=false):KpF n₀ W (W.putObj l o'):=
 ⟨belowK_b hn W l o o' hl h hc hw,fun b cs d hb=>by
  have hne:b≠l:=by rintro rfl;rw[h] at hb;cases hb;cases hc
  exact(World.putObj_heap_other (by omega)).trans hb⟩
theorem places_calls (A:Option Addr) (n c:Nat) (w:World):
 CallsIn Fence.wide 3 Tryz.prog 104 #[.slice A n c] w fun e w'=>e=.returned (.func (.func 156) #[] #[.pointer (some ⟨w.heap.size,0,none⟩)])∧w'=w.alloc (.cells #[.slice A n c] 27):=by
 rw[callsIn_wide]
 have hmf:∀(fn:Fn) (first cap:Array Value) (w:World),(Instr.makeFunc fn first cap).run Tryz.prog w=.ok (.func fn first cap) w:=fun _ _ _ _=>rfl
 go_enter Tryz.func104,Tryz.ntmps104
 go_wp2
 go_ret
 exact⟨rfl,rfl⟩
theorem grown_of_below {w w':World} (h:Below w.heap.size w w'):w.grownBy w' none:=⟨h.os,h.tape,h.output,h.size,fun k hk _=>h.block k hk⟩
attribute [local go_sem] Oper.semAt_some
theorem seqF_take {fs:List Fd} {k:Nat} {f:Fd} (hf:fs[k]?=some f):seqF 0 (fs.take (k+1))=seqF 0 (fs.take k)++[(atF (endF 0 (fs.take k)) f,f)]∧endF 0 (fs.take (k+1))=atF (endF 0 (fs.take k)) f+f.n:=by
 have e:fs.take (k+1)=fs.take k++[f]:=by rw[List.take_add_one,hf];rfl
 rw[e,seqF_snoc,endF_snoc]
 exact⟨rfl,rfl⟩
theorem FBox.of {W:World} {b:Nat} {s:ByteArray} {k l:Int} {d:Nat×Nat} (h:W.heap[b]?=some (.cells #[.string s,.int .i64 k,.int .i64 l] 68 d)):FBox W b s k l:=by
 refine⟨?_,?_,?_⟩ <;> simp[World.cell?,h]
set_option maxRecDepth 100000 in
theorem places1_in (n:Nat) (hn:1≤n) (l Bl:Nat) (A:Option Addr) (c:Nat) (fs:List Fd) (hmay:MayF fs) (hlen:fs.length≤16) (w0:World) (hA:Rd w0 A (cellsF fs)) (J Jx:List PF→World→Prop) (W:World)
 (hJ:AbidesFrom W.heap.size J)
 (hY:∀pre x W1,J pre W1→pre.length<fs.length→YieldAt Fence.wide (n - 1) Tryz.prog l (encPF x) W1 fun e W'=>
   (e=.returned (.bool true)∧J (pre++[x]) W'∧KpF w0.heap.size W1 W')∨(e=.returned (.bool false)∧Jx (pre++[x]) W'))
 (hBl:W.cell? ⟨Bl,0,none⟩=some (.slice A fs.length c)) (hW:Below w0.heap.size w0 W) (h0:J [] W):
 CallsIn Fence.wide n Tryz.prog 156 #[.func (.yield l) #[] #[],.pointer (some ⟨Bl,0,none⟩)] W fun e W'=>(∃v,e=.returned v)∧
  ((∃ys,ys.map Subtype.val=seqF 0 fs∧J ys W')∨(∃pre,True∧Jx pre W')):=by
 refine callsIn_of_wp Tryz.func156 rfl trivial ?_ rfl
 simp only[Tryz.ntmps156,List.size_toArray,List.length_cons,List.length_nil,Nat.reduceAdd,Nat.reduceSub,Array.replicate_succ,Array.replicate_zero,List.push_toArray,List.append_toArray,List.nil_append,List.cons_append]
 gi_wp2
 gi_loopw [3,5,8] (fun nx _ i wr=>∃(k:Nat) (pre:List PF),k≤fs.length∧i=.int .i64 k∧nx=.int .i64 (endF 0 (fs.take k):Nat)∧pre.map Subtype.val=seqF 0 (fs.take k)∧J pre wr∧Below w0.heap.size w0 wr) (fun _ _ i _=>fs.length - (intOf i).toNat)
 case atStart=>exact⟨0,[],by omega,rfl,rfl,rfl,h0,hW⟩
 case round=>
  obtain⟨k,pre,hk,rfl,rfl,hpre,hJs,HB⟩:=hrel
  have hAr:=hA.below HB
  by_cases hlt:k<fs.length
  ·obtain⟨f,hf⟩:∃f,fs[k]?=some f:=⟨_,List.getElem?_eq_getElem hlt⟩
   obtain⟨ad,rfl,c0,c1,c2⟩:=hAr.fld hf
   have hm:=hmay f (List.mem_of_getElem? hf)
   have hle:=endF_le (nx:=0) (hmay.take k)
   rw[List.length_take,Nat.min_eq_left hk] at hle
   obtain⟨e1,e2⟩:=seqF_take hf
   have ha:=atF_le (nx:=endF 0 (fs.take k)) hm
   have hpl:pre.length<fs.length:=by
    have:=congrArg List.length hpre
    rw[List.length_map,seqF_length,List.length_take,Nat.min_eq_left hk] at this
    omega
   have hn1:=Fd.n_le f
   have hn0:=Fd.n_pos hm
   have HL:=Lib.hid f.n_eq.symm
   obtain⟨nx,hnx⟩:∃nx,endF 0 (fs.take k)=nx:=⟨_,rfl⟩
   rw[hnx] at e1 e2 ha hle ⊢
   obtain⟨at_,hat⟩:∃a,atF nx f=a:=⟨_,rfl⟩
   rw[hat] at e1 e2 ha
   have E1:=Lib.hid e1
   have E2:=Lib.hid e2
   have HP:=Lib.hid hpre
   have hb0:(wr.alloc (.cells #[.string f.s,.int .i64 f.k,.int .i64 f.l] 68)).heap[wr.heap.size]?=some (.cells #[.string f.s,.int .i64 f.k,.int .i64 f.l] 68 (0,0)):=World.alloc_heap_new wr _
   have hJ0:J pre (wr.alloc (.cells #[.string f.s,.int .i64 f.k,.int .i64 f.l] 68)):=hJ _ _ _ none hJs (World.grownBy_alloc _ _ _) (fun _ h=>by cases h)
   have HB0:=HB.alloc HB.size (.cells #[.string f.s,.int .i64 f.k,.int .i64 f.l] 68)
   clear e1 e2 hpre hnx hf hA hAr hJs
   by_cases hk12:f.k=12
   ·obtain rfl:nx=at_:=by rw[←hat,atF,if_pos hk12]
    clear hat
    have hk12':(f.k != 12)=false:=by rw[hk12];rfl
    obtain⟨fn,tmps,assign,body,hy,hR⟩:=hY _ ⟨(nx,f),by show nx≤_;omega⟩ _ hJ0 hpl
    dsimp only[encPF] at hy
    clear hk12
    gi_wp2
    refine hR.mono ?_
    rintro e W3 (⟨rfl,hJ3,hk3⟩|⟨rfl,hJx3⟩)
    ·obtain⟨d0,d1,d2⟩:=FBox.of (hk3.fld _ _ _ hb0)
     gi_wp2_with (refine⟨trivial,?_⟩;gi_at_call 89;refine(callsIn_wide.2 (Long_is _ _ _ _ HL.out _)).mono ?_;rintro e w4 ⟨rfl,hb4⟩)
     go_roundw
     case rel=>exact⟨k+1,pre++[⟨(nx,f),by show nx≤_;omega⟩],by omega,by go_num,by rw[E2.out];go_num,by rw[List.map_append,HP.out,E1.out];rfl,hJ _ _ _ none hJ3 (grown_of_below hb4) (fun _ h=>by cases h),(HB0.trans hk3.below).trans (hb4.mono (Nat.le_trans (Nat.le_trans HB0.size hk3.below.size) (Nat.le_refl _)))⟩
     case measure=>simp[intOf];omega
    ·gi_wp2
     refine bodyPost_ret (results_none rfl _ _ _) rfl ?_
     exact⟨⟨_,rfl⟩,.inr ⟨_,trivial,hJx3⟩⟩
   ·have hup:upN nx f.n=at_:=by rw[←hat,atF,if_neg hk12]
    have HU:=Lib.hid hup
    clear hat hup
    have hk12':(f.k != 12)=true:=by simpa using hk12
    have F0:=FBox.new wr f.s f.k f.l
    have hpl2:pre.length<fs.length:=hpl
    clear hk12
    gi_wp2_with (first
     |(refine⟨trivial,?_⟩;gi_at_call 89;refine(callsIn_wide.2 (Long_is _ _ _ _ HL.out _)).mono ?_;rintro e w2 ⟨rfl,hb2⟩;obtain⟨g0,g1,g2⟩:=F0.below hb2)
     |(refine⟨trivial,?_⟩;gi_at_call 105;refine(callsIn_wide.2 (up_calls nx f.n hn0 (by omega) _)).mono ?_;rintro e w3 ⟨rfl,rfl⟩;rw[HU.out];obtain⟨fn,tmps,assign,body,hy,hR⟩:=hY _ ⟨(at_,f),by show at_≤_;omega⟩ _ (hJ _ _ _ none hJ0 (grown_of_below hb2) (fun _ h=>by cases h)) hpl;dsimp only[encPF] at hy))
    refine hR.mono ?_
    rintro e W3 (⟨rfl,hJ3,hk3⟩|⟨rfl,hJx3⟩)
    ·obtain⟨d0,d1,d2⟩:=FBox.of (hk3.fld _ _ _ ((hb2.block _ (by simp)).trans hb0))
     gi_wp2_with (refine⟨trivial,?_⟩;gi_at_call 89;refine(callsIn_wide.2 (Long_is _ _ _ _ HL.out _)).mono ?_;rintro e w4 ⟨rfl,hb4⟩)
     go_roundw
     case rel=>exact⟨k+1,pre++[⟨(at_,f),by show at_≤_;omega⟩],by omega,by go_num,by rw[E2.out];go_num,by rw[List.map_append,HP.out,E1.out];rfl,hJ _ _ _ none hJ3 (grown_of_below hb4) (fun _ h=>by cases h),((HB0.trans (hb2.mono HB0.size)).trans hk3.below).trans (hb4.mono (Nat.le_trans (Nat.le_trans HB0.size hb2.size) hk3.below.size))⟩
     case measure=>simp[intOf];omega
    ·gi_wp2
     refine bodyPost_ret (results_none rfl _ _ _) rfl ?_
     exact⟨⟨_,rfl⟩,.inr ⟨_,trivial,hJx3⟩⟩
  ·obtain rfl:k=fs.length:=by omega
   rw[List.take_length] at hpre
   clear hA hAr hJ hY
   gi_wp2
   go_end0
   exact⟨⟨_,rfl⟩,.inl ⟨pre,hpre,hJs⟩⟩
attribute [local go_sem] Oper.semAt_some
theorem places_stops (n:Nat) (hn:1≤n) (Bl:Nat) (A:Option Addr) (c:Nat) (fs:List Fd) (hmay:MayF fs) (hlen:fs.length≤16) (w0 w:World) (hA:Rd w0 A (cellsF fs)) (hb:Below w0.heap.size w0 w) (hBl:w.cell? ⟨Bl,0,none⟩=some (.slice A fs.length c)):
 SeqStopsK Fence.wide n Tryz.prog 156 #[.pointer (some ⟨Bl,0,none⟩)] encPF (KpF w0.heap.size) (fun ys=>ys.map Subtype.val=seqF 0 fs) (fun _=>True) fs.length w:=fun l J Jx W hW hJ _ hY h0=>
 places1_in n hn l Bl A c fs hmay hlen w0 hA J Jx W hJ hY (cell_below (B:=0) hW hBl) (hb.trans (hW.mono hb.size)) h0
def intsV (l:List Nat):List Value:=l.map fun (n:Nat)=>Value.int .i64 (n:Int)
def layL (fs:List Fd):List Nat:=if rightF fs=true then(seqF 0 fs).map Prod.fst else[]
def sizeF (fs:List Fd):Nat:=if rightF fs=true then upN (endF 0 fs) 8 else 0
theorem infoInt:(Tryz.prog.info? 3).map (fun i=>(i.zero,i.size,i.bytes))=some (some (.int .i64 0),1,8):=by kernel_rfl
theorem rightF_may {fs:List Fd} (h:rightF fs=true):MayF fs∧fs.length≤16:=by
 simp only[rightF,Bool.and_eq_true,decide_eq_true_eq] at h
 refine⟨fun f hf=>?_,h.2⟩
 obtain⟨i,hi,rfl⟩:=List.getElem_of_mem hf
 have:=h.1 i hi
 simp only[okF,Bool.and_eq_true] at this
 exact this.1.2
theorem FRight_is (A:Option Addr) (c:Nat) (fs:List Fd) (r:Bool) (h:rightF fs=r) (w:World) (hA:Rd w A (cellsF fs)) (hl:fs.length≤9223372036854775807):
 Calls Tryz.prog 62 #[.slice A fs.length c] w fun e w'=>e=.returned (.bool r)∧Below w.heap.size w w':=h▸FRight_calls A c fs w hA hl
def lastF:List PF→Nat
 |[]=>0
 |[x]=>x.1.1+x.1.2.n
 |_ :: y :: r=>lastF (y :: r)
theorem lastF_snoc (pre:List PF) (x:PF):lastF (pre++[x])=x.1.1+x.1.2.n:=by
 induction pre with
 |nil=>rfl
 |cons y r ih=>
  cases r with
  |nil=>rfl
  |cons z r=>exact ih
theorem lastF_seq (ys:List PF) (fs:List Fd) (h:ys.map Subtype.val=seqF 0 fs):lastF ys=endF 0 fs:=by
 rcases List.eq_nil_or_concat fs with rfl|⟨fs,f,rfl⟩
 ·have:ys=[]:=by simpa[seqF] using h
  subst this;rfl
 ·rw[List.concat_eq_append,seqF_snoc] at h
  rcases List.eq_nil_or_concat ys with rfl|⟨ys,y,rfl⟩
  ·simp at h
  ·rw[List.concat_eq_append,List.map_append] at h
   have h2:=(List.append_inj' h rfl).2
   simp at h2
   rw[List.concat_eq_append,List.concat_eq_append,lastF_snoc,endF_snoc,h2]
theorem KpF.alloc {n₀:Nat} {W:World} (h:n₀≤W.heap.size) (o:Obj):KpF n₀ W (W.alloc o):=KpF.of_below (below_new o) h
theorem boxed_below {W W':World} {B:Nat} {t:TypeId} {v:Value} (h:Boxed W B t v) (hb:Below W.heap.size W W'):Boxed W' B t v:=(hb.block B h.lt).trans h
theorem KpF.setCell {n₀:Nat} {W:World} {B:Nat} {t:TypeId} {u:Value} (h:Boxed W B t u) (hB:n₀≤B) (ht:t≠68) (v:Value):KpF n₀ W (W.setCell ⟨B,0,none⟩ v):=
 ⟨(Below.refl _ _).setCell (p:=⟨B,0,none⟩) hB v,fun b cs d hb=>by
   refine(Below.heap_setCell _ _ _ b (fun e=>?_)).trans hb
   have e':b=B:=e
   subst e'
   rw[show W.heap[b]?=_ from h] at hb
   cases hb;exact ht rfl⟩
theorem KeepsOthers.of_below {W W':World} (h:Below W.heap.size W W'):KeepsOthers W W':=KeepsOthers.of_grownBy (grown_of_below h) (fun _ _ e _=>by cases e)
theorem appendedF {W w1:World} {n₀ B1 B2 base:Nat} {v v' u:Value} {k m:Nat} {xs ys:List Value} {tmp:Obj}
 (hv:Boxed W B1 29 v) (h2:Boxed W B2 3 u) (hrow:W.ownsRow base 3 1 v k xs) (hn:n₀≤B1) (h1b:B1<base) (h2b:B2<base) (h12:B1≠B2) (hbase:base≤W.heap.size)
 (hown':w1.ownsRow base 3 1 v' m ys) (hgrow:(W.alloc tmp).grownBy w1 v.ownBlock):
 Boxed w1 B1 29 v∧Boxed (w1.setCell ⟨B1,0,none⟩ v') B1 29 v'∧Boxed (w1.setCell ⟨B1,0,none⟩ v') B2 3 u∧(w1.setCell ⟨B1,0,none⟩ v').ownsRow base 3 1 v' m ys∧KeepsOthers W (w1.setCell ⟨B1,0,none⟩ v')∧KpF n₀ W (w1.setCell ⟨B1,0,none⟩ v'):=by
 have hne:∀{B:Nat},B<base→some B≠v.ownBlock:=fun hB e=>by have:=own_base hrow _ e.symm;omega
 have hne':∀{B:Nat},B<base→some B≠v'.ownBlock:=fun hB e=>by have:=own_base hown' _ e.symm;omega
 have hv1:Boxed w1 B1 29 v:=(hv.alloc tmp).kept hgrow (hne h1b)
 have h21:Boxed w1 B2 3 u:=(h2.alloc tmp).kept hgrow (hne h2b)
 have hko:KeepsOthers W w1:=(KeepsOthers.alloc W tmp).trans (KeepsOthers.of_grownBy hgrow fun j o ej hj=>by
  rcases(hrow.alloc tmp).2 with ⟨rfl,_⟩|⟨g,cap,cur,rfl,_,hgb,_⟩
  ·simp[Value.ownBlock] at ej
  ·obtain rfl:g=j:=by simpa[Value.ownBlock] using ej
   rw[hgb] at hj;cases hj;rfl)
 have hkf:KpF n₀ W w1:=⟨((Below.refl n₀ W).alloc (by omega) tmp).grown hgrow (by simp;omega) (fun j ej=>by have:=own_base hrow j ej;omega),fun b cs d hb=>by
  have hlt:=(Array.getElem?_eq_some_iff.1 hb).1
  refine(hgrow.block b (by simp;omega) fun e=>?_).trans ((Below.heap_alloc _ _ _ hlt).trans hb)
  rcases hrow.2 with ⟨rfl,_⟩|⟨g,cap,cur,rfl,_,hgb,_⟩
  ·simp[Value.ownBlock] at e
  ·obtain rfl:b=g:=by simpa[Value.ownBlock] using e
   rw[hgb] at hb;cases hb⟩
 exact⟨hv1,hv1.set v',h21.other (Ne.symm h12) _,hown'.kept (grownBy_setCell' w1 B1 v') (.inr (hne' h1b).symm),hko.trans (KeepsOthers.setCell _ _ _),hkf.trans (KpF.setCell hv1 hn (by decide) _)⟩
set_option maxRecDepth 100000 in
theorem Layout_no (A:Option Addr) (c:Nat) (fs:List Fd) (hr:rightF fs=false) (w:World) (hA:Rd w A (cellsF fs)) (hl:fs.length≤9223372036854775807):
 Calls Tryz.prog 70 #[.slice A fs.length c] w fun e w'=>e=.returned (.tuple #[.slice none 0 0,.int .i64 0])∧Below w.heap.size w w':=by
 have HR:=Lib.hid hr
 clear hr
 go_enter Tryz.func70,Tryz.ntmps70
 go_wp2_with (go_at_call 62;refine(FRight_is _ _ _ _ HR.out _ hA hl).mono ?_;rintro e w1 ⟨rfl,hb1⟩)
 go_ret2
 exact⟨rfl,hb1⟩
set_option maxRecDepth 100000 in
theorem Layout_yes (A:Option Addr) (c:Nat) (fs:List Fd) (hr:rightF fs=true) (w:World) (hA:Rd w A (cellsF fs)) (hl:fs.length≤9223372036854775807):
 Calls Tryz.prog 70 #[.slice A fs.length c] w fun e w'=>∃v,e=.returned (.tuple #[v,.int .i64 (upN (endF 0 fs) 8:Nat)])∧w'.ownsRow w.heap.size 3 1 v fs.length (intsV ((seqF 0 fs).map Prod.fst))∧Below w.heap.size w w':=by
 obtain⟨i0,hi,hz0,hz1,hz2⟩:=info_parts infoInt
 obtain⟨hmay,h16⟩:=rightF_may hr
 have hend:=endF_le (nx:=0) hmay
 have HR:=Lib.hid hr
 clear hr
 rw[←callsIn_wide (n:=3)]
 refine callsIn_of_wp_marks Tryz.func70 rfl trivial ?_ rfl
 simp only[Tryz.ntmps70,List.size_toArray,List.length_cons,List.length_nil,Nat.reduceAdd,Nat.reduceSub,Array.replicate_succ,Array.replicate_zero,List.push_toArray,List.append_toArray,List.nil_append,List.cons_append]
 gi_wp2_with (first
  |(refine⟨trivial,?_⟩;gi_at_call 62;refine(callsIn_wide.2 (FRight_is _ _ _ _ HR.out _ hA hl)).mono ?_;rintro e w1 ⟨rfl,hb1⟩)
  |(refine⟨trivial,?_⟩;gi_at_call 104;refine(callsIn_wide.2 (callsIn_wide.1 (places_calls A fs.length c _))).mono ?_;rintro e w2 ⟨rfl,rfl⟩))
 have b1:=((Boxed.new w1 29 (.slice none 0 0)).alloc (.cells #[.int .i64 0] 3)).alloc (.cells #[.slice A fs.length c] 27)
 have b2:=(Boxed.new (w1.alloc (.cells #[.slice none 0 0] 29)) 3 (.int .i64 0)).alloc (.cells #[.slice A fs.length c] 27)
 have b3:=Boxed.new ((w1.alloc (.cells #[.slice none 0 0] 29)).alloc (.cells #[.int .i64 0] 3)) 27 (.slice A fs.length c)
 simp only[World.size_alloc] at b2 b3
 have hB0:Below w.heap.size w (((w1.alloc (.cells #[.slice none 0 0] 29)).alloc (.cells #[.int .i64 0] 3)).alloc (.cells #[.slice A fs.length c] 27)):=((hb1.alloc hb1.size _).alloc (by have:=hb1.size;simp;omega) _).alloc (by have:=hb1.size;simp;omega) _
 have hsz:(((w1.alloc (.cells #[.slice none 0 0] 29)).alloc (.cells #[.int .i64 0] 3)).alloc (.cells #[.slice A fs.length c] 27)).heap.size=w1.heap.size+3:=by simp
 have hsw:=hb1.size
 obtain⟨W0,hW0⟩:∃W0,((w1.alloc (.cells #[.slice none 0 0] 29)).alloc (.cells #[.int .i64 0] 3)).alloc (.cells #[.slice A fs.length c] 27)=W0:=⟨_,rfl⟩
 rw[hW0] at b1 b2 b3 hB0 hsz ⊢
 clear hW0
 refine wpIn_rangeFunc_ownH rfl (by decide) (gf:=156) (lb:=#[.pointer (some ⟨w1.heap.size+1+1,0,none⟩)]) rfl trivial (enters_of Tryz.func156 (by kernel_rfl) rfl)
  (places_stops 2 (by decide) (w1.heap.size+1+1) A c fs hmay h16 w W0 hA hB0 b3.cell) KpF.trans (KpF.putObj (by omega)) (Below.refl _ _) (fun _=>rfl)
  (fun pre W=>((∃v,Boxed W w1.heap.size 29 v∧W.ownsRow W0.heap.size 3 1 v pre.length (intsV (pre.map fun x=>x.1.1))∧True)∧Boxed W (w1.heap.size+1) 3 (.int .i64 (lastF pre:Nat)))∧Below w.heap.size w W)
  (fun _ _ _=>False)
  (OwnFrom.and (OwnFrom.and (Own.from (holdsRow_own W0.heap.size w1.heap.size 29 3 1 (fun pre:List PF=>pre.length) (fun pre=>intsV (pre.map fun x=>x.1.1)) (fun _ _=>True)) _) (Own.from (boxed_own _ _ _) _)) (ownFrom_below (Nat.le_refl _) (by omega)))
  (fun _ _ _ _ _ hs _ _=>hs)
  ⟨⟨⟨_,b1,own_nil _ _ _ _,trivial⟩,b2⟩,hB0⟩
  (fun x a' W=>∃Bx,W.heap[Bx]?=some (.cells #[.string x.1.2.s,.int .i64 x.1.2.k,.int .i64 x.1.2.l] 68 (0,0))∧a'={ tmps:=#[.slice A fs.length c,undef,.slice none 0 0,.int .i64 0,.pointer (some ⟨w1.heap.size,0,none⟩),.pointer (some ⟨w1.heap.size+1,0,none⟩),.int .i64 (x.1.1:Int),.pointer (some ⟨Bx,0,none⟩),.slice A fs.length c,.bool true,.bool false,.slice A fs.length c,.func (.func 156) #[] #[.pointer (some ⟨w1.heap.size+1+1,0,none⟩)],.int .i64 (x.1.1:Int),.agg #[.string x.1.2.s,.int .i64 x.1.2.k,.int .i64 x.1.2.l],undef,undef,undef,undef,undef,undef,undef,undef,undef,undef,undef],defers:=[] })
  (fun x a' _ X Y row hs hg hr=>by
    obtain⟨Bx,h1,h2⟩:=hs
    exact⟨Bx,(hg.block Bx (Array.getElem?_eq_some_iff.1 h1).1 (fun e=>by obtain⟨_,o,ho,hc⟩:=hr Bx e.symm;rw[h1] at ho;cases ho;cases hc)).trans h1,h2⟩)
  ?assign ?body ?done ?stop
 case assign=>
  rintro l pre x W K ⟨⟨⟨v,hv,hrow,_⟩,hb2⟩,hB1⟩ hK
  dsimp only[encPF]
  gi_wp2
  exact hK _ _ ((KeepsOthers.alloc _ _).from _) (KpF.alloc hB1.size _) ⟨⟨⟨v,hv.alloc _,hrow.alloc _,trivial⟩,hb2.alloc _⟩,hB1.alloc hB1.size _⟩ ⟨W.heap.size,World.alloc_heap_new W _,rfl⟩
 case body=>
  rintro l pre x a' W hl ⟨r,hr⟩ ⟨⟨⟨v,hv,hrow,_⟩,h2⟩,hB⟩ ⟨Bx,hX,rfl⟩ hlt
  have hc:=hv.cell
  have hx1:=x.2
  have hx2:=Fd.n_le x.1.2
  have HL:=Lib.hid (Fd.n_eq x.1.2).symm
  have hsW:=hB.size
  have hb2lt:=h2.lt
  have hrsz:W0.heap.size≤W.heap.size:=by
   have:=(Array.getElem?_eq_some_iff.1 hr).1
   omega
  gi_wp2_with (first
   |(gi_at_builtin;refine wpListIn_append_own _ rfl _ _ 29 rfl W0.heap.size 3 i0 (.int .i64 0) 1 8 Tryz.underlying29 hi hz0 hz1 hz2 rfl (by decide) _ _ _ rfl (hrow.alloc _) ⟨W.heap.size,0,none⟩ 1 1 [.int .i64 (x.1.1:Int)] rfl rfl (cell_one_new _ _ _) (by simp[Value.oneCell']) (by unfold maxLen;omega) (by omega) (by simp;omega) ?_;intro v' w2 hown' hgrow _;obtain⟨g',cap',rfl⟩:=ownsRow_succ hown';obtain⟨hv1,hv2,h22,hr2,hk2,hf2⟩:=appendedF (n₀:=w.heap.size) hv h2 hrow (by omega) (by omega) (by omega) (by omega) hrsz hown' hgrow;have hc1:=hv1.cell;have hf1:=hv1.frozen;obtain⟨x0,x1,x2⟩:=FBox.of (hf2.fld _ _ _ hX))
   |(refine⟨trivial,?_⟩;gi_at_call 89;refine(CallsIn.inRound l (callsIn_wide.2 (Long_is _ _ _ _ HL.out _))).mono ?_;rintro e w3 ⟨rfl,hb3⟩;have hv3:=boxed_below hv2 hb3;have h23:=boxed_below h22 hb3;have hr3:=own_below hr2 hb3;have hc3:=h23.cell;have hf3:=h23.frozen))
  have hz2:=hf2.below.size
  have hz3:=hb3.size
  have hk3:=hk2.trans (KeepsOthers.of_below hb3)
  have hf3':=hf2.trans (KpF.of_below hb3 (Nat.le_trans hsW hz2))
  have hkp:=hf3'.trans (KpF.setCell h23 (n₀:=w.heap.size) (by omega) (by decide) (.int .i64 ((x.1.1:Int)+(x.1.2.n:Int))))
  refine⟨(hk3.trans (KeepsOthers.setCell _ _ _)).from _,hkp,⟨⟨⟨_,hv3.other (by omega) _,?_,trivial⟩,?_⟩,hB.trans hkp.below⟩⟩
  ·have e:intsV ((pre++[x]).map fun x=>x.1.1)=intsV (pre.map fun x=>x.1.1)++[.int .i64 (x.1.1:Int)]:=by simp[intsV]
   rw[e,List.length_append]
   exact hr3.kept (grownBy_setCell' _ _ _) (.inr fun e=>by have:=own_base hr3 _ e;omega)
  ·rw[lastF_snoc]
   exact h23.set _
 case done=>
  rintro D ys W hD hys ⟨⟨⟨v,hv,hrow,_⟩,h2⟩,hB⟩ hK
  have hlast:=lastF_seq ys fs hys
  have hyl:ys.length=fs.length:=by
   have:=congrArg List.length hys
   rwa [List.length_map,seqF_length] at this
  have hyv:ys.map (fun x=>x.1.1)=(seqF 0 fs).map Prod.fst:=by rw[←hys,List.map_map];rfl
  rw[hyv,hyl] at hrow
  rw[hlast] at h2
  have hc:=hv.cell
  have hc2:=h2.cell
  clear hlast hyl hyv hys
  gi_wp2
  rw[wpIn_wide]
  refine RW.start (fun w'=>Below w.heap.size w w'∧w'.cell? ⟨w1.heap.size,0,none⟩=some v∧w'.cell? ⟨w1.heap.size+1,0,none⟩=some (.int .i64 (endF 0 fs:Nat))∧w'.ownsRow W0.heap.size 3 1 v fs.length (intsV ((seqF 0 fs).map Prod.fst))∧w'.heap[D]?=some (.deferred (some []))) (by kernel_rfl) (by kernel_rfl) ⟨hB.drew,hc,hc2,hrow,hK⟩ ?_
  clear hB hc hc2 hrow hK hv h2
  repeat (first
   |(refine' RW.val (by rfl) ?_ ?_;rotate_left;(focus (intro w' hS;obtain⟨HB,hc,hc2,hrow,hK⟩:=hS;go_simp;rfl));simp only[Act.put,List.setIfInBounds_toArray,List.set_cons_zero,List.set_cons_succ])
   |(refine RW.off (by rfl) ?_;simp only[Act.put,List.setIfInBounds_toArray,List.set_cons_zero,List.set_cons_succ])
   |(refine' RW.call (by rfl) ?_ ?_ ?_
     rotate_left 3
     (focus (intro w' hS;obtain⟨HB,hc,hc2,hrow,hK⟩:=hS;go_simp;exact⟨rfl,rfl⟩))
     (focus
       intro w' hS
       obtain⟨HB,hc,hc2,hrow,hK⟩:=hS
       first
        |(refine(up_calls (endF 0 fs) 8 (by omega) (by omega) _).mono ?_;rintro e w1 ⟨rfl,rfl⟩;exact⟨rfl,HB,hc,hc2,hrow,hK⟩))
     simp only[Act.put,List.setIfInBounds_toArray,List.set_cons_zero,List.set_cons_succ]))
  refine RW.done (fun w' hS=>?_)
  obtain⟨HB,hc,hc2,hrow,hK⟩:=hS
  gi_wp2
  refine⟨by simp,.inl ⟨_,_,rfl,run_takeDeferred hK,?_⟩⟩
  have hD2:w.heap.size≤D:=by omega
  exact⟨_,results_tmp2 rfl _ _ _,v,rfl,own_mono (ownsRow_putObj hrow _ hK rfl) (by omega),HB.trans (belowK_b (w:=w) (Nat.le_refl _) _ D _ _ hD2 hK rfl rfl)⟩
 case stop=>
  rintro D c' pre W _ _ h _
  exact h.elim
theorem Layout_calls (A:Option Addr) (c:Nat) (fs:List Fd) (w:World) (hA:Rd w A (cellsF fs)) (hl:fs.length≤9223372036854775807):
 Calls Tryz.prog 70 #[.slice A fs.length c] w fun e w'=>∃v,e=.returned (.tuple #[v,.int .i64 (sizeF fs:Nat)])∧w'.ownsRow w.heap.size 3 1 v (layL fs).length (intsV (layL fs))∧Below w.heap.size w w':=by
 cases hr:rightF fs
 ·refine(Layout_no A c fs hr w hA hl).mono ?_
  rintro e w' ⟨rfl,hb⟩
  have e1:layL fs=[]:=by simp[layL,hr]
  have e2:sizeF fs=0:=by simp[sizeF,hr]
  rw[e1,e2]
  exact⟨_,rfl,own_nil _ _ _ _,hb⟩
 ·refine(Layout_yes A c fs hr w hA hl).mono ?_
  rintro e w' ⟨v,rfl,ho,hb⟩
  have e1:layL fs=(seqF 0 fs).map Prod.fst:=by simp[layL,hr]
  have e2:sizeF fs=upN (endF 0 fs) 8:=by simp[sizeF,hr]
  rw[e1,e2,List.length_map,seqF_length]
  exact⟨_,rfl,ho,hb⟩
attribute [local go_sem] Oper.semAt_some
theorem sizeF_le (fs:List Fd):sizeF fs≤4096:=by
 unfold sizeF
 split
 ·rename_i h
  obtain⟨hm,hl⟩:=rightF_may h
  have:=endF_le (nx:=0) hm
  have:=upN_le (endF 0 fs) 8 (by omega)
  omega
 ·omega
theorem New_calls (A:Option Addr) (c:Nat) (fs:List Fd) (w:World) (hA:Rd w A (cellsF fs)) (hl:fs.length≤9223372036854775807):
 Calls Tryz.prog 73 #[.slice A fs.length c] w fun e w'=>∃v,e=.returned v∧OutB w' v (List.replicate (sizeF fs) 0)∧Below w.heap.size w w':=by
 have hz:=sizeF_le fs
 have hmk:=make_bytes (sizeF fs) (by omega)
 go_enter Tryz.func73,Tryz.ntmps73
 go_wp2_with (go_at_call 70;refine(Layout_calls A c fs _ hA hl).mono ?_;rintro e w1 ⟨v,rfl,ho,hb1⟩)
 go_ret
 exact⟨_,rfl,⟨some ⟨w1.heap.size,0,none⟩,sizeF fs,by simp,by simp,rd_new _ _ _⟩,hb1.alloc hb1.size _⟩
def Fd.z:Fd:=⟨⟨#[]⟩,0,0⟩
theorem Rd.int {w:World} {A:Option Addr} {l:List Nat} (h:Rd w A (intsV l)) {k n:Nat} (hk:l[k]?=some n):∃ad,A=some ad∧w.cell? (ad.add k)=some (.int .i64 n):=by
 have:(intsV l)[k]?=some (.int .i64 n):=by simp[intsV,hk]
 exact h.at this
theorem Layout_is (A:Option Addr) (c:Nat) (fs:List Fd) (z:Nat) (hz:sizeF fs=z) (w:World) (hA:Rd w A (cellsF fs)) (hl:fs.length≤9223372036854775807):
 Calls Tryz.prog 70 #[.slice A fs.length c] w fun e w'=>∃B m c',e=.returned (.tuple #[.slice B m c',.int .i64 (z:Nat)])∧m=(layL fs).length∧Rd w' B (intsV (layL fs))∧Below w.heap.size w w':=by
 subst hz
 refine(Layout_calls A c fs w hA hl).mono ?_
 rintro e w' ⟨v,rfl,ho,hb⟩
 obtain⟨B,c',rfl,_,_,hr⟩:=own_rd ho
 exact⟨B,_,c',rfl,rfl,hr,hb⟩
def OBox (w:World) (b:Nat) (cs:List Value) (T:TypeId):Prop:=w.heap[b]?=some (.cells cs.toArray T (0,0))
theorem OBox.new (w:World) (cs:List Value) (T:TypeId):OBox (w.alloc (.cells cs.toArray T)) w.heap.size cs T:=World.alloc_heap_new w _
theorem OBox.lt {w:World} {b:Nat} {cs:List Value} {T:TypeId} (h:OBox w b cs T):b<w.heap.size:=(Array.getElem?_eq_some_iff.1 h).1
theorem OBox.below {w w1:World} {b:Nat} {cs:List Value} {T:TypeId} (h:OBox w b cs T) (hb:Below w.heap.size w w1):OBox w1 b cs T:=(hb.block b h.lt).trans h
theorem OBox.cell {w:World} {b:Nat} {cs:List Value} {T:TypeId} (h:OBox w b cs T) {j:Nat} {v:Value} (hj:cs[j]?=some v):w.cell? ⟨b,j,none⟩=some v:=by
 simp[World.cell?,show w.heap[b]?=_ from h,hj]
theorem OBox.frz {w:World} {b:Nat} {cs:List Value} {T:TypeId} (h:OBox w b cs T) (j:Nat):w.frozen? ⟨b,j,none⟩=false:=by
 simp[World.frozen?,show w.heap[b]?=_ from h]
theorem OBox.f3 {w:World} {b:Nat} {x y z:Value} {T:TypeId} (h:OBox w b [x,y,z] T):w.cell? ⟨b,0,none⟩=some x∧w.cell? ⟨b,1,none⟩=some y∧w.cell? ⟨b,2,none⟩=some z∧w.frozen? ⟨b,0,none⟩=false∧w.frozen? ⟨b,1,none⟩=false∧w.frozen? ⟨b,2,none⟩=false:=
 ⟨h.cell rfl,h.cell rfl,h.cell rfl,h.frz 0,h.frz 1,h.frz 2⟩
theorem OBox.f1 {w:World} {b:Nat} {x:Value} {T:TypeId} (h:OBox w b [x] T):w.cell? ⟨b,0,none⟩=some x∧w.frozen? ⟨b,0,none⟩=false:=⟨h.cell rfl,h.frz 0⟩
theorem place_form (Ab:Option Addr) (nb cb:Nat) (A:Option Addr) (c:Nat) (fs:List Fd) (nm:ByteArray) (w:World) (hA:Rd w A (cellsF fs)) (hl:fs.length≤9223372036854775807) (h:rightF fs=false∨¬nb=sizeF fs):
 Calls Tryz.prog 106 #[.slice Ab nb cb,.slice A fs.length c,.string nm] w fun e w'=>e=.returned (.tuple #[.int .i64 0,.agg #[.string ⟨#[]⟩,.int .i64 0,.int .i64 0],.int .i64 60])∧Below w.heap.size w w':=by
 obtain⟨z,hz⟩:∃z,sizeF fs=z:=⟨_,rfl⟩
 obtain⟨r,hr⟩:∃r,rightF fs=r:=⟨_,rfl⟩
 rw[hz,hr] at h
 have HZ:=Lib.hid hz
 have HR:=Lib.hid hr
 clear hz hr
 cases r
 ·clear h
  go_enter Tryz.func106,Tryz.ntmps106
  go_wp2_with (first
   |(go_at_call 70;refine(Layout_is A c fs z HZ.out _ (hA.below (below_new _)) hl).mono ?_;rintro e w1 ⟨B,m,c',rfl,hm,hr,hb1⟩;have hA1:=(hA.below (below_new _)).below hb1)
   |(go_at_call 62;refine(FRight_is A c fs _ HR.out _ hA1 hl).mono ?_;rintro e w2 ⟨rfl,hb2⟩;obtain⟨k0,k1,k2,f0,f1,f2⟩:=(((OBox.new w [.string ⟨#[]⟩,.int .i64 0,.int .i64 0] 68).below hb1).below hb2).f3;have HB:=below_seq (below_seq (below_new _) hb1) hb2))
  refine bodyPost_ret (v:=.tuple #[.int .i64 0,.agg #[.string ⟨#[]⟩,.int .i64 0,.int .i64 0],.int .i64 60]) (by simp[results,Tryz.results106,go_sem, *];done) rfl ⟨rfl,?_⟩
  (repeat (first|exact HB|refine Below.setCell ?_ (by dsimp only;omega) _|refine Below.alloc ?_ (by have hs_:=HB.size;first|(simp;done)|(simp;omega)|omega) _|apply Below.drew))
 ·have hne:((nb:Int) != (z:Int))=true:=by simp at h;simp;omega
  clear h
  go_enter Tryz.func106,Tryz.ntmps106
  go_wp2_with (first
   |(go_at_call 70;refine(Layout_is A c fs z HZ.out _ (hA.below (below_new _)) hl).mono ?_;rintro e w1 ⟨B,m,c',rfl,hm,hr,hb1⟩;have hA1:=(hA.below (below_new _)).below hb1)
   |(go_at_call 62;refine(FRight_is A c fs _ HR.out _ hA1 hl).mono ?_;rintro e w2 ⟨rfl,hb2⟩;obtain⟨k0,k1,k2,f0,f1,f2⟩:=(((OBox.new w [.string ⟨#[]⟩,.int .i64 0,.int .i64 0] 68).below hb1).below hb2).f3;have HB:=below_seq (below_seq (below_new _) hb1) hb2))
  refine bodyPost_ret (v:=.tuple #[.int .i64 0,.agg #[.string ⟨#[]⟩,.int .i64 0,.int .i64 0],.int .i64 60]) (by simp[results,Tryz.results106,go_sem, *];done) rfl ⟨rfl,?_⟩
  (repeat (first|exact HB|refine Below.setCell ?_ (by dsimp only;omega) _|refine Below.alloc ?_ (by have hs_:=HB.size;first|(simp;done)|(simp;omega)|omega) _|apply Below.drew))
theorem place_none (Ab:Option Addr) (nb cb:Nat) (A:Option Addr) (c:Nat) (fs:List Fd) (nm:ByteArray) (w:World) (hA:Rd w A (cellsF fs)) (hl:fs.length≤9223372036854775807) (h:rightF fs=true) (hn:nb=sizeF fs) (hk:findZ fs nm<0):
 Calls Tryz.prog 106 #[.slice Ab nb cb,.slice A fs.length c,.string nm] w fun e w'=>e=.returned (.tuple #[.int .i64 0,.agg #[.string ⟨#[]⟩,.int .i64 0,.int .i64 0],.int .i64 61])∧Below w.heap.size w w':=by
 have HZ:=Lib.hid hn.symm
 have HR:=Lib.hid h
 obtain⟨k,hkz⟩:∃k,findZ fs nm=k:=⟨_,rfl⟩
 rw[hkz] at hk
 have HK:=Lib.hid hkz
 have hd:decide (k<0)=true:=by simpa using hk
 clear h hn hkz
 go_enter Tryz.func106,Tryz.ntmps106
 go_wp2_with (first
  |(go_at_call 70;refine(Layout_is A c fs nb HZ.out _ (hA.below (below_new _)) hl).mono ?_;rintro e w1 ⟨B,m,c',rfl,hm,hr,hb1⟩;have hA1:=(hA.below (below_new _)).below hb1)
  |(go_at_call 62;refine(FRight_is A c fs _ HR.out _ hA1 hl).mono ?_;rintro e w2 ⟨rfl,hb2⟩;have hA2:=hA1.below hb2)
  |(go_at_call 96;refine(Find_is A c fs _ _ HK.out _ hA2 hl).mono ?_;rintro e w3 ⟨rfl,hb3⟩;obtain⟨k0,k1,k2,f0,f1,f2⟩:=((((OBox.new w [.string ⟨#[]⟩,.int .i64 0,.int .i64 0] 68).below hb1).below hb2).below hb3).f3;have HB:=below_seq (below_seq (below_seq (below_new _) hb1) hb2) hb3))
 refine bodyPost_ret (v:=.tuple #[.int .i64 0,.agg #[.string ⟨#[]⟩,.int .i64 0,.int .i64 0],.int .i64 61]) (by simp[results,Tryz.results106,go_sem, *];done) rfl ⟨rfl,?_⟩
 (repeat (first|exact HB|refine Below.setCell ?_ (by dsimp only;omega) _|refine Below.alloc ?_ (by have hs_:=HB.size;first|(simp;done)|(simp;omega)|omega) _|apply Below.drew))
theorem place_ok (Ab:Option Addr) (nb cb:Nat) (A:Option Addr) (c:Nat) (fs:List Fd) (nm:ByteArray) (w:World) (hA:Rd w A (cellsF fs)) (hl:fs.length≤9223372036854775807) (h:rightF fs=true) (hn:nb=sizeF fs) (k:Nat) (f:Fd) (at_:Nat) (hk:findZ fs nm=k) (hf:fs[k]?=some f) (hat:(layL fs)[k]?=some at_):
 Calls Tryz.prog 106 #[.slice Ab nb cb,.slice A fs.length c,.string nm] w fun e w'=>e=.returned (.tuple #[.int .i64 at_,.agg #[.string f.s,.int .i64 f.k,.int .i64 f.l],.int .i64 0])∧Below w.heap.size w w':=by
 have HZ:=Lib.hid hn.symm
 have HR:=Lib.hid h
 have HK:=Lib.hid hk
 have HF:=Lib.hid hf
 have HT:=Lib.hid hat
 have hk1:=(List.getElem?_eq_some_iff.1 hf).1
 have hk2:=(List.getElem?_eq_some_iff.1 hat).1
 clear h hn hk hf hat
 go_enter Tryz.func106,Tryz.ntmps106
 go_wp2_with (first
  |(go_at_call 70;refine(Layout_is A c fs nb HZ.out _ (hA.below (below_new _)) hl).mono ?_;rintro e w1 ⟨B,m,c',rfl,hm,hr,hb1⟩;have hA1:=(hA.below (below_new _)).below hb1)
  |(go_at_call 62;refine(FRight_is A c fs _ HR.out _ hA1 hl).mono ?_;rintro e w2 ⟨rfl,hb2⟩;have hA2:=hA1.below hb2)
  |(go_at_call 96;refine(Find_is A c fs _ _ HK.out _ hA2 hl).mono ?_;rintro e w3 ⟨rfl,hb3⟩;obtain⟨k0,k1,k2,f0,f1,f2⟩:=((((OBox.new w [.string ⟨#[]⟩,.int .i64 0,.int .i64 0] 68).below hb1).below hb2).below hb3).f3;have HB:=below_seq (below_seq (below_seq (below_new _) hb1) hb2) hb3;obtain⟨ad,rfl,g0,g1,g2⟩:=(hA2.below hb3).fld HF.out;obtain⟨bd,rfl,g3⟩:=((hr.below hb2).below hb3).int HT.out))
 have hlt1:(k:Int)<((layL fs).length:Int):=by omega
 have hlt2:(k:Int)<(fs.length:Int):=by omega
 clear HZ HR HK HF HT
 go_region
 all_goals go_wp2
 all_goals refine bodyPost_ret (v:=.tuple #[.int .i64 at_,.agg #[.string f.s,.int .i64 f.k,.int .i64 f.l],.int .i64 0]) (by simp[results,Tryz.results106,go_sem, *];done) rfl ⟨rfl,?_⟩
 all_goals (repeat (first|exact HB|refine Below.setCell ?_ (by dsimp only;omega) _|refine Below.alloc ?_ (by have hs_:=HB.size;first|(simp;done)|(simp;omega)|omega) _|apply Below.drew))
end
end Go.Proofs.YteembinfgbapgaaGreat
