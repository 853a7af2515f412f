/- The law SchemaStays: WHATEVER THE INPUT it tells true, it never panics, and the input reads as it did: the row, out of SchemaStays_calls. Merged out of: Vt Vu Zh. -/
import Derived.Test.YteembinfgbapgaaGreatA43
import Derived.Maps.RangeRun
import Derived.Test.YteembinfgbapgaaGreatRows
set_option linter.unusedSimpArgs false
set_option linter.unusedVariables false
set_option maxRecDepth 100000
set_option maxHeartbeats 8000000
namespace Go.Proofs.YteembinfgbapgaaGreat
open Go.RowKit Go.Lib Go.Maps
theorem does_a {w W:World} {cp mp:Nat} {D:List Ty} (h:ASt w cp mp D W) (x:OpV) (hG:x.G W) (hS:x.S) (nf nc nl:Nat) (hnf:x.fs.length=nf) (hnc:x.cs.length=nc) (hnl:x.live.length=nl) (q:Int) (hq:doE D x.z=q) (v:Nat) (hv:doV D x.z=v) (D':List Ty) (hD:doD D x.z=D'):
 Calls Tryz.prog 13 #[.pointer (some ⟨cp,0,none⟩),.agg #[.int .i64 x.k,.string x.s,.slice x.A nf x.a,.slice x.C nc x.c,.slice x.L nl x.l]] W fun e w'=>e=.returned (.tuple #[.int .i64 (v:Nat),.int .i64 q])∧ASt w cp mp D' w'∧Kp W w':=by
 obtain⟨E,es,k,rfl,h2,h3,h4⟩:=h
 refine(does_m h2 h4 x hG hS nf nc nl hnf hnc hnl q hq v hv D' hD).mono ?_
 rintro e w' ⟨rfl,hc⟩
 exact⟨rfl,ASt.to h2 h3 (by rw[←hD];exact h4.do (opOk hG hS)) hc⟩
end Go.Proofs.YteembinfgbapgaaGreat
namespace Go.Proofs.YteembinfgbapgaaGreat
open Go.RowKit Go.Lib Go.Maps
open Go.ChangeMaps (setBlock)
theorem wpList_append_all {P:Program} (w:World) {S:Value→Prop} {ops:Array Oper} {rest:List Oper} {o:Oper} {a:Act} {Q:Exit→Act→World→Prop} (hgd:o.guard=none) (s x:Operand) (t:TypeId)
 (ho:o.op=.call { callee:=.builtin .append,args:=#[s,x],argTypes:=#[t,t] })
 (base:Nat) (e:TypeId) (i:TypeInfo) (z:Value) (size bytes:Nat) (ht:P.underlying t=some (.slice e)) (hi:P.info? e=some i) (hz:i.zero=some z)
 (hsize:i.size=size) (hby:i.bytes=bytes) (hzs:z.cells.size=size) (hsz:0<size)
 (v:Value) (n:Nat) (xs:List Value) (hs:a.eval s=v) (hown:w.ownsRow base e size v n xs)
 (ad:Addr) (m c:Nat) (news:List Value) (hx:a.eval x=.slice (some ad) m c) (hl:news.length=m * size) (hnews:∀j u,news[j]?=some u→w.cell? (ad.add j)=some u) (h1:∀u∈news,u.oneCell'=true)
 (h63:n+m≤maxLen) (hbytes:(n+m) * bytes≤140737488355328) (hbase:base≤w.heap.size) (hm:0<m)
 (sz:∀u∈z.cells.toList,S u) (sn:∀u∈news,S u) (so:∀g,v.ownBlock=some g→AllC S w g)
 (h:∀v' w',w'.ownsRow base e size v' (n+m) (xs++news)→w.grownBy w' v.ownBlock→(∀g,v'.ownBlock=some g→AllC S w' g)→wpList P ops Q rest (a.put o.dst v') w'):
 wpList P ops Q (o :: rest) a w:=by
 refine wpList_plain hgd fun K hK=>?_
 obtain⟨v',w',hr,h2,h3,h4,h5⟩:=run_append_own_at (P:=P) w base t o.type e i z size bytes ht hi hz hsize hby hzs hsz v n xs hown ad m c news hl hnews h1 h63 hbytes hbase
 have h6:=append_all w base t o.type e i z size bytes ht hi hz hsize hby v n xs hown ad m c news hl hnews h1 h63 hbytes hm sz sn so hr
 unfold Oper.wp execOp
 simp only[ho,resolve,invoke,builtin,Sem.run_bind,Sem.run_pure,Result.andThen_ok,List.map_toArray,List.map_cons,List.map_nil,hs,hx,hr]
 exact hK _ _ (h v' w' h2 h3 h6)
theorem cellsT_len (xs:List TabV):(cellsT xs).length=3 * xs.length:=by
 induction xs with
 |nil=>rfl
 |cons x r ih=>simp[cellsT,TabV.cells] at ih ⊢;omega
theorem cellsT_sl (xs:List TabV):∀u∈cellsT xs,SlV u:=by
 intro u hu
 simp only[cellsT,List.mem_flatMap] at hu
 obtain⟨x,_,hu⟩:=hu
 simp[TabV.cells] at hu
 rcases hu with rfl|rfl|rfl <;> exact⟨_,_,_,rfl⟩
theorem CloneT_m (g c n:Nat) (xs:List TabV) (hn:xs.length=n) (h0:0<n) (hl:n≤1000) (hc:n≤c) (w:World) (hA:Rd w (some ⟨g,0,none⟩) (cellsT xs)):
 Calls Tryz.prog 47 #[.slice (some ⟨g,0,none⟩) n c] w fun e w'=>∃v,e=.returned v∧w'.ownsRow w.heap.size 96 3 v n (cellsT xs)∧(∀q,v.ownBlock=some q→AllC SlV w' q)∧Below w.heap.size w w':=by
 obtain⟨i0,hi,hz0,hz1,hz2⟩:=info_parts infoTb
 have heq:∀w:World,(binOp .eql 87 (.slice (some ⟨g,0,none⟩) n c) (.slice none 0 0)).run Tryz.prog w=.ok (.bool false) w:=fun w=>Lib.run_eql_slice_nil (P:=Tryz.prog) w 87 96 (some ⟨g,0,none⟩) n c 0 0 Tryz.underlying87
 have hnb:(w.alloc (.cells #[] 96)).heap[w.heap.size]?=some (.cells #[] 96):=World.alloc_heap_new _ _
 have hown:(w.alloc (.cells #[] 96)).ownsRow w.heap.size 96 3 (.slice (some ⟨w.heap.size,0,none⟩) 0 0) 0 []:=⟨rfl,.inr ⟨_,0,#[],rfl,Nat.le_refl _,hnb,Nat.le_refl _,Nat.zero_le _,rfl,rfl⟩⟩
 have hall:∀q,(Value.slice (some ⟨w.heap.size,0,none⟩) 0 0).ownBlock=some q→AllC SlV (w.alloc (.cells #[] 96)) q:=fun q hq=>by
  have h2:some w.heap.size=some q:=hq
  cases h2
  exact AllC.of hnb (by intro u hu;simp at hu)
 have hA2:=hA.below (below_new (.cells #[] 96))
 have hcl:=cellsT_len xs
 rw[hn] at hcl
 clear hnb
 go_enter Tryz.func47,Tryz.ntmps47
 go_wp2_with (at_builtin;refine wpList_append_all (S:=SlV) _ rfl _ _ 87 rfl w.heap.size 96 i0 (.agg #[.slice none 0 0,.slice none 0 0,.slice none 0 0]) 3 72 Tryz.underlying87 hi hz0 hz1 hz2 rfl (by decide) _ _ _ rfl hown ⟨g,0,none⟩ n c (cellsT xs) rfl ?c0 ?c1 ?c2 ?c3 ?c4 ?c5 h0 ?c6 (cellsT_sl xs) hall ?_)
 case c0=>omega
 case c1=>
  intro j u hj
  obtain⟨ad',e,h⟩:=hA2 (by rintro e;rw[e] at hj;simp at hj)
  cases e;exact h j u hj
 case c2=>
  intro u hu
  obtain⟨_,_,_,rfl⟩:=cellsT_sl xs u hu
  rfl
 case c3=>simp only[maxLen];omega
 case c4=>omega
 case c5=>simp
 case c6=>intro u hu;simp[Value.cells] at hu;rcases hu with rfl|rfl|rfl <;> exact⟨_,_,_,rfl⟩
 intro v' w1 hown' hgrow hal
 have hB:=(below_new (w:=w) (.cells #[] 96)).grown hgrow (by simp) (fun q hq=>own_base hown q hq)
 clear hown hgrow hall
 go_wp2
 go_ret
 exact⟨_,rfl,own_eq hown' (by simp) (by simp),hal,hB⟩
structure CpIs (W0 W:World) (op om:Nat) (E:List En) (es:List MapEntry) (k:Nat):Prop where
 cat:CatIs 89 80 W op om E es k
 low:∀d∈E,∀g,d.has g→W0.heap.size≤g
 lo:W0.heap.size≤op
 lm:W0.heap.size≤om
 tabs:∀d∈E,∀x∈d.xs,x.Is (fun g=>g<W0.heap.size) W0
theorem CpIs.but {W0 W W':World} {op om:Nat} {E:List En} {es:List MapEntry} {k r:Nat} (h:CpIs W0 W op om E es k) (hr:r≠op∧r≠om∧∀d∈E,¬d.has r) (hb:Below W0.heap.size W0 W') (hk:∀g,g<W.heap.size→g≠r→W'.heap[g]?=W.heap[g]?):CpIs W0 W' op om E es k:=
 ⟨⟨(hk op h.cat.box.lt hr.1.symm).trans h.cat.box,(hk om h.cat.mpLt hr.2.1.symm).trans h.cat.map,h.cat.b1,h.cat.b2,h.cat.prs,fun d hd=>(h.cat.ents d hd).keep (fun g hg=>hk g (En.lt (h.cat.ents d hd) hg) (by rintro rfl;exact hr.2.2 d hd hg)),h.cat.names,h.cat.small,h.cat.apart,h.cat.free,
   fun d hd x hx=>((h.tabs d hd x hx).keep (fun g hg=>hb.block g hg)).mono (fun g hg=>⟨fun d' hd' hh=>by have:=h.low d' hd' g hh;omega,by have:=h.lo;omega,by have:=h.lm;omega⟩)⟩,h.low,h.lo,h.lm,h.tabs⟩
theorem CpIs.below {W0 W W':World} {op om:Nat} {E:List En} {es:List MapEntry} {k:Nat} (h:CpIs W0 W op om E es k) (hb:Below W.heap.size W W'):CpIs W0 W' op om E es k:=⟨h.cat.below hb,h.low,h.lo,h.lm,h.tabs⟩
theorem setBlock_at (w:World) (r:Nat) (o:Obj) (hr:r<w.heap.size):(setBlock w r o).heap[r]?=some o:=by
 simp[setBlock,hr]
theorem setBlock_ne (w:World) (r:Nat) (o:Obj) {g:Nat} (h:g≠r):(setBlock w r o).heap[g]?=w.heap[g]?:=by
 show(w.heap.setIfInBounds r o)[g]?=_
 rw[Array.getElem?_setIfInBounds_ne (fun e=>h e.symm)]
theorem setBlock_size (w:World) (r:Nat) (o:Obj):(setBlock w r o).heap.size=w.heap.size:=by simp[setBlock]
theorem setBlock_below {w0 w:World} {r:Nat} {o:Obj} (h:Below w0.heap.size w0 w) (hr:w0.heap.size≤r):Below w0.heap.size w0 (setBlock w r o):=
 ⟨h.os,h.tape,h.output,by rw[setBlock_size];exact h.size,fun g hg=>(setBlock_ne w r o (by omega)).trans (h.block g hg)⟩
theorem left_split {Z Zs R:List (MapEntry×En)} {es:List MapEntry} {seen:Array Nat} (hZ:Z.map (·.1)=es) (hp:(Zs++R).Perm Z) (hs:seen.toList=Zs.map (·.1.born)) {e:MapEntry} (he:e∈(leftOf es.toArray seen).toList):
 ∃d s t,R=s++(e,d) :: t:=by
 unfold leftOf at he
 simp only[Array.toList_filter,List.mem_filter,Bool.not_eq_true'] at he
 obtain⟨h1,h2⟩:=he
 have h1:e∈es:=by simpa using h1
 rw[←hZ] at h1
 obtain⟨z,hz,rfl⟩:=List.mem_map.1 h1
 rcases List.mem_append.1 (hp.symm.subset hz) with h3|h3
 ·have h4:z.1.born∈seen.toList:=by rw[hs];exact List.mem_map.2 ⟨z,h3,rfl⟩
  have h5:seen.contains z.1.born=true:=by simpa using h4
  rw[h5] at h2;cases h2
 ·obtain⟨s,t,h⟩:=List.append_of_mem h3
  exact⟨z.2,s,t,h⟩
theorem left_none {Z Zs R:List (MapEntry×En)} {es:List MapEntry} {seen:Array Nat} (hZ:Z.map (·.1)=es) (hp:(Zs++R).Perm Z) (hs:seen.toList=Zs.map (·.1.born)) (hb:(es.map (·.born)).Nodup) (h0:(leftOf es.toArray seen).size=0):R=[]:=by
 cases R with
 |nil=>rfl
 |cons z r=>
  exfalso
  have hz:z∈Z:=hp.subset (by simp)
  have hm:z.1∈es:=by rw[←hZ];exact List.mem_map.2 ⟨z,hz,rfl⟩
  have hnd:((Zs++z :: r).map (·.1.born)).Nodup:=by
   have h1:(Z.map (·.1.born)).Nodup:=by rw[←hZ,List.map_map] at hb;exact hb
   exact(hp.map _).nodup_iff.2 h1
  rw[List.map_append,List.nodup_append] at hnd
  have hns:seen.contains z.1.born=false:=by
   cases hx:seen.contains z.1.born with
   |false=>rfl
   |true=>
    have h4:z.1.born∈seen.toList:=by simpa using hx
    rw[hs] at h4
    exact absurd rfl (hnd.2.2 _ h4 z.1.born (by simp))
  have:z.1∈(leftOf es.toArray seen).toList:=by
   unfold leftOf
   simp only[Array.toList_filter,List.mem_filter,Bool.not_eq_true']
   exact⟨hm,hns⟩
  rw[show leftOf es.toArray seen=#[] from Array.eq_empty_of_size_eq_zero h0] at this
  simp at this
def CopyP (W:World) (D:List Ty) (e:Ending) (w':World):Prop:=∃op om D',e=.returned (.pointer (some ⟨op,0,none⟩))∧D'.Perm D∧ASt W op om D' w'
theorem Copy_m {W:World} {cp mp:Nat} {E:List En} {es:List MapEntry} {clock:Nat} (h:CatIs 89 80 W cp mp E es clock) (hk:CatOk (E.map (·.y))):
 Calls Tryz.prog 23 #[.pointer (some ⟨cp,0,none⟩)] W fun e w'=>CopyP W (E.map (·.y)) e w':=by
 have HH:=Lib.hid h;have HK:=Lib.hid hk
 have hlen:es.length=E.length:=by have:=congrArg List.length h.prs;rw[prs_len,List.length_map] at this;exact this
 have HL:=Lib.hid hlen
 clear h hk hlen
 go_enter Tryz.func23,Tryz.ntmps23
 go_upto_region 2 with (go_at_call 12;refine(New_cat _).mono ?_;rintro e w1 ⟨rfl,hN,hb1⟩)
 have k1:=(HH.out.below hb1).box.f1.1
 have hrg:(Instr.range 78 (.map (some mp))).run Tryz.prog w1=.ok (.pointer (some ⟨w1.heap.size,0,none⟩)) (w1.alloc (.mapIter (some mp) clock #[] clock)):=run_range_map _ _ _ _ mp es.toArray clock Tryz.underlying78 (HH.out.below hb1).map
 have HN:=Lib.hid hN
 have hz1:=hN.box.lt
 clear hN
 go_upto_region 3 with fail
 obtain⟨op,hop⟩:∃op,op=W.heap.size+1:=⟨_,rfl⟩
 obtain⟨om,hom⟩:∃om,om=W.heap.size:=⟨_,rfl⟩
 obtain⟨r,hr⟩:∃r,r=w1.heap.size:=⟨_,rfl⟩
 rw[←hop] at HN hz1 ⊢
 rw[←hom] at HN
 rw[←hr] at ⊢
 clear k1 hrg
 have hbA:=below_new (w:=w1) (.mapIter (some mp) clock #[] clock)
 have hI0:w1.alloc (.mapIter (some mp) clock #[] clock) |>.heap[r]?=some (.mapIter (some mp) clock #[] clock):=by rw[hr];exact World.alloc_heap_new _ _
 have C0:CpIs W (w1.alloc (.mapIter (some mp) clock #[] clock)) op om [] [] 0:=⟨HN.out.below hbA,(fun d hd=>by cases hd),by omega,by omega,(fun d hd=>by cases hd)⟩
 have HB0:=hb1.trans (hbA.mono hb1.size)
 have hrop:op<r:=by omega
 have HOP:=Lib.hid hop;have HOM:=Lib.hid hom
 clear HN hbA hb1 hz1 hr hop hom
 go_loopw [4,5] (fun _ _ wr=>∃(Zs R:List (MapEntry×En)) (seen:Array Nat) (c0:Nat) (E':List En) (es':List MapEntry) (k':Nat),Hid ((Zs++R).Perm (es.zip E)∧seen.toList=Zs.map (·.1.born)∧E'.map (·.y)=Zs.map (·.2.y)∧wr.heap[r]?=some (.mapIter (some mp) clock seen c0)∧clock≤c0∧CpIs W wr op om E' es' k'∧Below W.heap.size W wr)) (fun _ _ wr=>es.length - (wr.iterSeen r).size)
 case atStart=>exact⟨[],es.zip E,#[],clock,[],[],0,Lib.hid ⟨List.Perm.refl _,rfl,rfl,hI0,Nat.le_refl _,C0,HB0⟩⟩
 case round=>
  obtain⟨Zs,R,seen,c0,E',es',k',hI⟩:=hrel
  clear C0 HB0 hI0
  have hop:=HOP.out;have hom:=HOM.out
  have hmapr:wr.heap[mp]?=some (.map es.toArray clock):=HH.out.map.below hI.out.2.2.2.2.2.2
  have hfst:(es.zip E).map (·.1)=es:=List.map_fst_zip (Nat.le_of_eq HL.out)
  have hsnd:(es.zip E).map (·.2)=E:=List.map_snd_zip (Nat.le_of_eq HL.out.symm)
  have hrlt:r<wr.heap.size:=(Array.getElem?_eq_some_iff.1 hI.out.2.2.2.1).1
  have hiter:wr.iterSeen r=seen:=by rw[World.iterSeen,hI.out.2.2.2.1]
  rcases run_next_at (P:=Tryz.prog) wr 0 r mp clock c0 seen es.toArray clock hI.out.2.2.2.1 hmapr (by intro x hx;exact HH.out.b1 x (by simpa using hx)) hI.out.2.2.2.2.1 with ⟨h0,hnx⟩|⟨e0,he0,wd,hwd,hnx⟩
  ·have hdone:E'.map (·.y) |>.Perm (E.map (·.y)):=by
    obtain⟨q1,q2,q3,_⟩:=hI.out
    have hR:=left_none hfst q1 q2 HH.out.b2 h0
    rw[hR,List.append_nil] at q1
    rw[q3]
    have:=q1.map (fun z=>z.2.y)
    have h2:=congrArg (List.map (fun d:En=>d.y)) hsnd
    rw[List.map_map] at h2
    rw[show (es.zip E).map (fun z=>z.2.y)=E.map (·.y) from h2] at this
    exact this
   have HD:=Lib.hid hdone
   clear h0 hdone hfst hsnd hmapr hiter hop hom
   go_wp2
   refine bodyPost_ret (v:=.pointer (some ⟨op,0,none⟩)) (by simp[results,Tryz.results23,go_sem, *];done) rfl ⟨op,om,E'.map (·.y),rfl,HD.out,E',es',k',rfl,hI.out.2.2.2.2.2.1.cat,⟨hI.out.2.2.2.2.2.2,fun g hg=>⟨by have:=HOM.out;omega,fun d hd hh=>by have:=hI.out.2.2.2.2.2.1.low d hd g hh;omega⟩⟩,HK.out.perm HD.out⟩
  ·obtain⟨q1,q2,q3,q4,q5,q6,q7⟩:=hI.out
   obtain⟨d,s,t,hRs⟩:=left_split hfst q1 q2 he0
   have hmem:(e0,d)∈es.zip E:=q1.subset (by rw[hRs];simp)
   obtain⟨i,hi⟩:=List.mem_iff_getElem?.1 hmem
   rw[List.getElem?_zip_eq_some] at hi
   obtain⟨d1,hd1,hkey,hval⟩:=nodup_of_prs HH.out.prs hi.1
   have hde:d1=d:=by have:=hi.2;simp only at this;rw[this] at hd1;exact(Option.some.inj hd1).symm
   rw[hde] at hkey hval
   have hdE:d∈E:=List.mem_of_getElem? hi.2
   have he0m:e0∈es:=List.mem_of_getElem? hi.1
   obtain⟨WN,hWN⟩:∃WN,WN=setBlock wd r (.mapIter (some mp) clock (seen.push e0.born) clock):=⟨_,rfl⟩
   have hwz:wd.heap.size=wr.heap.size:=by rcases hwd with rfl|rfl <;> rfl
   have hwh:∀g:Nat,wd.heap[g]?=wr.heap[g]?:=fun g=>by rcases hwd with rfl|rfl <;> rfl
   have hbd:Below W.heap.size W wd:=by rcases hwd with rfl|rfl;exact q7;exact q7.drew
   have hbN:Below W.heap.size W WN:=by rw[hWN];exact setBlock_below hbd (by omega)
   have hNr:WN.heap[r]?=some (.mapIter (some mp) clock (seen.push e0.born) clock):=by rw[hWN];exact setBlock_at _ _ _ (by omega)
   have hNg:∀g:Nat,g≠r→WN.heap[g]?=wr.heap[g]?:=fun g hg=>by rw[hWN,setBlock_ne _ _ _ hg];exact hwh g
   have hNz:WN.heap.size=wr.heap.size:=by rw[hWN,setBlock_size];exact hwz
   have hrd:∀e∈E',¬e.has r:=fun e he hh=>by
    have hi:=q6.cat.ents e he
    rcases hh with hp|hv
    ·have:=hi.box;unfold OBox at this;rw[←hp,q4] at this;cases this
    ·rcases hi.row.2 with ⟨e2,_⟩|⟨g,cap,cur,e2,_,hg,_⟩
     ·rw[e2] at hv;cases hv
     ·rw[e2] at hv
      have hgr:g=r:=Option.some.inj hv
      rw[hgr] at hg
      rw[q4] at hg;cases hg
   have hrm:r≠om:=by omega
   have CN:CpIs W WN op om E' es' k':=q6.but ⟨by omega,hrm,hrd⟩ hbN (fun g _ hg=>hNg g hg)
   have hen:=run_entry_at (P:=Tryz.prog) WN r mp clock seen es.toArray clock e0 hNr ((HH.out.map.below hbN:MBk WN mp es clock)) (by simpa using he0m) (by simpa using HH.out.b2)
   rw[hkey,hval] at hnx hen
   rw[←hWN] at hnx
   have hfree:∀e∈E',e.y.s≠d.y.s:=fun e he hs=>by
    have h1:(es.zip E).map (·.2.y.s) |>.Nodup:=by
     have:=HH.out.names
     have h2:=congrArg (List.map (fun d:En=>d.y.s)) hsnd
     rw[List.map_map] at h2
     rw[show (es.zip E).map (·.2.y.s)=E.map (·.y.s) from h2]
     exact this
    have h2:=(q1.map (fun z=>z.2.y.s)).nodup_iff.2 h1
    rw[hRs,List.map_append,List.nodup_append] at h2
    have h3:e.y∈Zs.map (·.2.y):=by rw[←q3];exact List.mem_map.2 ⟨e,he,rfl⟩
    obtain⟨z,hz,hze⟩:=List.mem_map.1 h3
    exact h2.2.2 _ (List.mem_map.2 ⟨z,hz,rfl⟩) d.y.s (by simp) (by rw[hze];exact hs)
   have hNE:findE E' d.y.s=none:=by
    unfold findE
    rw[List.find?_eq_none]
    intro e he
    simpa using hfree e he
   have hdI:=HH.out.ents d hdE
   obtain⟨g,c,n,hdv,hnc,hxn,hold,htop,hn0,hrowW⟩:=En.open hdI (HK.out.ok d.y (List.mem_map.2 ⟨d,hdE,rfl⟩))
   obtain⟨old,holdE⟩:∃o,d.y.old=o:=⟨_,rfl⟩
   obtain⟨p,hpE⟩:∃o,d.p=o:=⟨_,rfl⟩
   obtain⟨nm,hnmE⟩:∃o,d.y.s=o:=⟨_,rfl⟩
   have hsm:nm.size≤maxLen:=by rw[←hnmE];exact HH.out.small d hdE
   have hbox:=hdI.box
   rw[holdE,hpE,hdv] at hbox
   rw[hpE,hnmE] at hnx hen
   rw[hnmE] at hNE
   have hplt:p<W.heap.size:=hbox.lt
   have hn64:n≤1000:=by omega
   have hS0:∀W',Only (some om) none WN W'→Below W.heap.size W W':=fun W' hO=>hbN.trans (hO.low hbN.size (fun g hg=>by cases hg;omega) (fun g hg=>by cases hg))
   have hall:∀W',Only (some om) none WN W'→W'.cell? ⟨op,0,none⟩=some (.map (some om))∧W'.cell? ⟨p,0,none⟩=some (.int .i64 (old:Nat))∧W'.cell? ⟨p,1,none⟩=some (.slice (some ⟨g,0,none⟩) n c)∧Only (some om) none WN W':=fun W' hO=>
    ⟨(CN.cat.box.only hO (by simpa using CN.cat.cpmp) (by simp)).f1.1,(hbox.below (hS0 W' hO)).cell rfl,(hbox.below (hS0 W' hO)).cell rfl,hO⟩
   have hrow:∀W',Only (some om) none WN W'→Rd W' (some ⟨g,0,none⟩) (cellsT d.xs):=fun W' hO=>hrowW.below (hS0 W' hO)
   obtain⟨lk,hlk⟩:=key_string (P:=Tryz.prog) Tryz.underlying9 hsm
   have HXN:=Lib.hid hxn;have HNE:=Lib.hid hNE;have HOE:=Lib.hid holdE;have HPE:=Lib.hid hpE;have HNM:=Lib.hid hnmE;have HDV:=Lib.hid hdv;have HOLD:=Lib.hid hold;have HDI:=Lib.hid hdI
   have HR:=Lib.hid (⟨hi,hRs,hkey,hval,hNr,hfree,hiter⟩:_∧_∧_∧_∧_∧_∧_)
   have HQ:=Lib.hid (⟨q1,q2,q3,q4,q6⟩:_∧_∧_∧_∧_)
   clear hxn hNE holdE hpE hnmE hdv hold hdI hi hRs hkey hval hNr hfree hiter q1 q2 q3 q4 q5 q6 q7 hI he0 hwd hmapr hwz hwh hbd hNg hrd hop hom hWN hd1 hde hmem he0m hfst hsnd
   go_upto_region 5 with fail
   refine wp_region_noPanic ?_
   refine wp_region_held_drew (S:=(fun W'=>W'.cell? ⟨op,0,none⟩=some (.map (some om))∧W'.cell? ⟨p,0,none⟩=some (.int .i64 (old:Nat))∧W'.cell? ⟨p,1,none⟩=some (.slice (some ⟨g,0,none⟩) n c)∧Only (some om) none WN W')) (by kernel_rfl) ?_ (fun hHeld=>?_)
   ·(refine hall _ ?_;repeat (first|assumption|exact Only.refl _ _ _|apply Only.drew|refine Only.seq ?_ (below_new _)))
   refine wpAnyH_take (i:=0) (oi:=_) (v:=?_) rfl (by kernel_rfl) (by kernel_rfl) (by kernel_rfl) (fun _ _ _ h=>h) (Or.inl ⟨by rfl,?_⟩) hHeld ?_
   rotate_left
   ·(intro w hSw;(try dsimp only at hSw);go_simp;first|done|with_reducible rfl)
   try simp only[Act.put,List.setIfInBounds_toArray,List.set_cons_zero,List.set_cons_succ,List.getElem_toArray,List.getElem_cons_succ,List.getElem_cons_zero]
   refine wpAnyH_take (i:=1) (oi:=_) (v:=?_) rfl (by kernel_rfl) (by kernel_rfl) (by kernel_rfl) (fun _ _ _ h=>h) (Or.inl ⟨by rfl,?_⟩) hHeld ?_
   rotate_left
   ·(intro w hSw;(try dsimp only at hSw);go_simp;first|done|with_reducible rfl)
   try simp only[Act.put,List.setIfInBounds_toArray,List.set_cons_zero,List.set_cons_succ,List.getElem_toArray,List.getElem_cons_succ,List.getElem_cons_zero]
   refine wpAnyH_take (i:=2) (oi:=_) (v:=?_) rfl (by kernel_rfl) (by kernel_rfl) (by kernel_rfl) (fun _ _ _ h=>h) (Or.inl ⟨by rfl,?_⟩) hHeld ?_
   rotate_left
   ·(intro w hSw;(try dsimp only at hSw);go_simp;first|done|with_reducible rfl)
   try simp only[Act.put,List.setIfInBounds_toArray,List.set_cons_zero,List.set_cons_succ,List.getElem_toArray,List.getElem_cons_succ,List.getElem_cons_zero]
   refine wpAnyH_take (i:=3) (oi:=_) (v:=?_) rfl (by kernel_rfl) (by kernel_rfl) (by kernel_rfl) (fun _ _ _ h=>h) (Or.inl ⟨by rfl,?_⟩) hHeld ?_
   rotate_left
   ·(intro w hSw;(try dsimp only at hSw);go_simp;first|done|with_reducible rfl)
   try simp only[Act.put,List.setIfInBounds_toArray,List.set_cons_zero,List.set_cons_succ,List.getElem_toArray,List.getElem_cons_succ,List.getElem_cons_zero]
   refine wpAnyH_take (i:=4) (oi:=_) (v:=?_) rfl (by kernel_rfl) (by kernel_rfl) (by kernel_rfl) (fun _ _ _ h=>h) (Or.inl ⟨by rfl,?_⟩) hHeld ?_
   rotate_left
   ·(intro w hSw;(try dsimp only at hSw);go_simp;first|done|with_reducible rfl)
   try simp only[Act.put,List.setIfInBounds_toArray,List.set_cons_zero,List.set_cons_succ,List.getElem_toArray,List.getElem_cons_succ,List.getElem_cons_zero]
   refine wpAnyH_take (i:=5) (oi:=_) (v:=?_) rfl (by kernel_rfl) (by kernel_rfl) (by kernel_rfl) (fun _ _ _ h=>h) (Or.inl ⟨by rfl,?_⟩) hHeld ?_
   rotate_left
   ·(intro w hSw;(try dsimp only at hSw);go_simp;first|done|with_reducible rfl)
   try simp only[Act.put,List.setIfInBounds_toArray,List.set_cons_zero,List.set_cons_succ,List.getElem_toArray,List.getElem_cons_succ,List.getElem_cons_zero]
   refine wpAnyH_take (i:=6) (oi:=_) (v:=?_) rfl (by kernel_rfl) (by kernel_rfl) (by kernel_rfl) (fun _ _ _ h=>h) (Or.inl ⟨by rfl,?_⟩) hHeld ?_
   rotate_left
   ·(intro w hSw;(try dsimp only at hSw);go_simp;first|done|with_reducible rfl)
   try simp only[Act.put,List.setIfInBounds_toArray,List.set_cons_zero,List.set_cons_succ,List.getElem_toArray,List.getElem_cons_succ,List.getElem_cons_zero]
   refine wpAnyH_take (i:=7) (oi:=_) (v:=?_) rfl (by kernel_rfl) (by kernel_rfl) (by kernel_rfl) (fun _ _ _ h=>h) (Or.inl ⟨by rfl,?_⟩) hHeld ?_
   rotate_left
   ·(intro w hSw;(try dsimp only at hSw);go_simp;first|done|with_reducible rfl)
   try simp only[Act.put,List.setIfInBounds_toArray,List.set_cons_zero,List.set_cons_succ,List.getElem_toArray,List.getElem_cons_succ,List.getElem_cons_zero]
   refine wpAnyH_take (i:=8) (oi:=_) (v:=?_) rfl (by kernel_rfl) (by kernel_rfl) (by kernel_rfl) (fun _ _ _ h=>h) (Or.inl ⟨by rfl,?_⟩) hHeld ?_
   rotate_left
   ·(intro w hSw;(try dsimp only at hSw);go_simp;first|done|with_reducible rfl)
   try simp only[Act.put,List.setIfInBounds_toArray,List.set_cons_zero,List.set_cons_succ,List.getElem_toArray,List.getElem_cons_succ,List.getElem_cons_zero]
   refine wpAnyH_take (i:=9) (oi:=_) (v:=?_) rfl (by kernel_rfl) (by kernel_rfl) (by kernel_rfl) (fun _ _ _ h=>h) (Or.inl ⟨by rfl,?_⟩) hHeld ?_
   rotate_left
   ·(intro w hSw;(try dsimp only at hSw);go_simp;first|done|with_reducible rfl)
   try simp only[Act.put,List.setIfInBounds_toArray,List.set_cons_zero,List.set_cons_succ,List.getElem_toArray,List.getElem_cons_succ,List.getElem_cons_zero]
   refine wpAnyH_take (i:=10) (oi:=_) (v:=?_) rfl (by kernel_rfl) (by kernel_rfl) (by kernel_rfl) (fun _ _ _ h=>h) (Or.inl ⟨by rfl,?_⟩) hHeld ?_
   rotate_left
   ·(intro w hSw;(try dsimp only at hSw);go_simp;first|done|with_reducible rfl)
   try simp only[Act.put,List.setIfInBounds_toArray,List.set_cons_zero,List.set_cons_succ,List.getElem_toArray,List.getElem_cons_succ,List.getElem_cons_zero]
   refine wpAnyH_take (i:=11) (oi:=_) (v:=?_) rfl (by kernel_rfl) (by kernel_rfl) (by kernel_rfl) (fun _ _ _ h=>h) (Or.inl ⟨by rfl,?_⟩) hHeld ?_
   rotate_left
   ·(intro w hSw;(try dsimp only at hSw);go_simp;first|done|with_reducible rfl)
   try simp only[Act.put,List.setIfInBounds_toArray,List.set_cons_zero,List.set_cons_succ,List.getElem_toArray,List.getElem_cons_succ,List.getElem_cons_zero]
   refine wpAnyH_take (i:=12) (oi:=_) (v:=?_) rfl (by kernel_rfl) (by kernel_rfl) (by kernel_rfl) (fun _ _ _ h=>h) (Or.inl ⟨by rfl,?_⟩) hHeld ?_
   rotate_left
   ·(intro w hSw;(try dsimp only at hSw);go_simp;first|done|with_reducible rfl)
   try simp only[Act.put,List.setIfInBounds_toArray,List.set_cons_zero,List.set_cons_succ,List.getElem_toArray,List.getElem_cons_succ,List.getElem_cons_zero]
   refine wpAnyH_ready (rs:=[13]) (by kernel_rfl) (by simp) ?_
   refine AllReadyH.cons (o:=_) rfl (fun K hK=>?_) AllReadyH.nil
   go_simp
   (go_at_call 47;obtain⟨_,_,_,HOx⟩:=hHeld;refine(CloneT_m g c n d.xs HXN.out hn0 hn64 hnc _ (hrow _ HOx)).mono ?_;rintro e W3 ⟨v',rfl,hown,hal,hbS⟩;obtain⟨B',c',rfl,_,_,_⟩:=own_rd hown;have HO3:=Only.seq HOx hbS)
   try (go_wp2_with fail)
   refine hK.out _ _ ?_ (fun hHeld=>?_)
   ·(try dsimp only);(refine hall _ ?_;repeat (first|assumption|exact Only.refl _ _ _|apply Only.drew|refine Only.seq ?_ (below_new _)))
   clear hK K
   try simp only[Act.put,List.setIfInBounds_toArray,List.set_cons_zero,List.set_cons_succ,List.getElem_toArray,List.getElem_cons_succ,List.getElem_cons_zero]
   refine wpAnyH_take (i:=14) (oi:=_) (v:=?_) rfl (by kernel_rfl) (by kernel_rfl) (by kernel_rfl) (fun _ _ _ h=>h) (Or.inl ⟨by rfl,?_⟩) hHeld ?_
   rotate_left
   ·(intro w hSw;(try dsimp only at hSw);go_simp;first|done|with_reducible rfl)
   try simp only[Act.put,List.setIfInBounds_toArray,List.set_cons_zero,List.set_cons_succ,List.getElem_toArray,List.getElem_cons_succ,List.getElem_cons_zero]
   refine wpAnyH_ready (rs:=[15]) (by kernel_rfl) (by simp) ?_
   refine AllReadyH.cons (o:=_) rfl (fun K hK=>?_) AllReadyH.nil
   go_simp
   refine hK.out _ _ ?_ (fun hHeld=>?_)
   ·(try dsimp only);(refine hall _ ?_;repeat (first|assumption|exact Only.refl _ _ _|apply Only.drew|refine Only.seq ?_ (below_new _)))
   clear hK K
   try simp only[Act.put,List.setIfInBounds_toArray,List.set_cons_zero,List.set_cons_succ,List.getElem_toArray,List.getElem_cons_succ,List.getElem_cons_zero]
   refine wpAnyH_ready (rs:=[16]) (by kernel_rfl) (by simp) ?_
   refine AllReadyH.cons (o:=_) rfl (fun K hK=>?_) AllReadyH.nil
   have hbS2:Below WN.heap.size WN W3:=Below.undrewS hbS
   have hb4:Below WN.heap.size WN (W3.alloc (.cells #[.int .i64 (old:Nat),.slice B' n c'] 89)):=below_seq hbS2 (below_new _)
   obtain⟨W5,hrun,hM5,hG5,hZ5⟩:=map_insert (e:=86) (string_keyed Tryz.underlying9) Tryz.underlying78 (CN.cat.map.below hb4) (CN.cat.keys Tryz.underlying9) (val:=.pointer (some ⟨W3.heap.size,0,none⟩)) hlk (key_new CN.cat HNE.out)
   obtain⟨_,_,_,HOy⟩:=hHeld
   have HO5:=Only.grown HOy hG5 (.inl rfl)
   go_simp
   refine hK.out _ _ ?_ (fun hHeld=>?_)
   ·(try dsimp only);(refine hall _ ?_;repeat (first|assumption|exact Only.refl _ _ _|apply Only.drew|refine Only.seq ?_ (below_new _)))
   clear hK K
   try simp only[Act.put,List.setIfInBounds_toArray,List.set_cons_zero,List.set_cons_succ,List.getElem_toArray,List.getElem_cons_succ,List.getElem_cons_zero]
   refine wpAnyH_done (by kernel_rfl) ?_ _
   refine NoPanic.normal ?_
   have HT5:Hid (W5.heap[r]?=some (.mapIter (some mp) clock (seen.push e0.born) clock)):=Lib.hid ((HO5.block r (by omega) (by simpa using hrm) (by simp)).trans HR.out.2.2.2.2.1)
   go_roundw
   case rel=>
    obtain⟨hi,hRs,hkey,hval,hNr,hfree,hiter⟩:=HR.out
    obtain⟨q1,q2,q3,q4,q6⟩:=HQ.out
    obtain⟨d',hdd⟩:∃d':En,d'=⟨d.y,W3.heap.size,.slice B' n c',d.xs⟩:=⟨_,rfl⟩
    have hz3:=hbS2.size
    have hhas:∀q,d'.has q→q=W3.heap.size∨(WN.heap.size≤q∧q<W3.heap.size):=fun q hq=>by
     rw[hdd] at hq
     rcases hq with h1|h1
     ·exact .inl h1
     ·exact .inr ⟨own_base hown q h1,own_lt hown q h1⟩
    have hdI':d'.Is 89 (W3.alloc (.cells #[.int .i64 (old:Nat),.slice B' n c'] 89)):=by
     rw[hdd]
     refine⟨?_,?_,HDI.out.tabs,fun q hq=>?_⟩
     ·show OBox _ W3.heap.size [.int .i64 (d.y.old:Nat),.slice B' n c'] _
      rw[HOE.out];exact OBox.new _ _ _
     ·show World.ownsRow _ 0 _ 3 (.slice B' n c') d.xs.length (cellsT d.xs)
      rw[HXN.out];exact own_mono (own_below hown (below_new _)) (Nat.zero_le _)
     ·exact(hal q hq).keep ((below_new _).block _ (own_lt hown q hq))
    have hW4:=hbN.trans (hb4.mono hbN.size)
    have hzN:=hbN.size
    have hxI:∀x∈d'.xs,x.Is (fun q=>((∀e∈E',¬e.has q)∧q≠op∧q≠om)∧¬d'.has q) (W3.alloc (.cells #[.int .i64 (old:Nat),.slice B' n c'] 89)):=fun x hx=>by
     rw[hdd] at hx
     refine((HH.out.tabs d hdE x hx).lt.keep (fun q hq=>hW4.block q hq.2)).mono (fun q hq=>⟨⟨fun e he hh=>?_,?_,?_⟩,fun hh=>?_⟩)
     ·have:=CN.low e he q hh;have:=hq.2;omega
     ·have:=CN.lo;have:=hq.2;omega
     ·have:=CN.lm;have:=hq.2;omega
     ·have:=hq.2;rcases hhas q hh with h1|h1 <;> omega
    have hM6:MBk W5 om (es'++[ent (.string d'.y.s) (.pointer (some ⟨d'.p,0,none⟩)) k']) (k'+1):=by
     rw[hdd]
     show MBk W5 om (es'++[ent (.string d.y.s) _ k']) _
     rw[HNM.out];exact hM5
    have hins:=CN.cat.ins hb4 hdI' (fun q hq=>by rcases hhas q hq with h1|h1 <;> omega) hxI hM6 (fun q h1 h2=>hG5.block q h1 (by intro e;exact h2 (Option.some.inj e))) (fun e he=>by rw[hdd];exact hfree e he) (by rw[hdd];show d.y.s.size≤_;rw[HNM.out];exact hsm)
    have hC5:CpIs W W5 op om (E'++[d']) _ (k'+1):=⟨hins,fun e he q hq=>by
     rcases List.mem_append.1 he with h1|h1
     ·exact CN.low e h1 q hq
     ·simp at h1;subst h1;rcases hhas q hq with h1|h1 <;> omega,CN.lo,CN.lm,fun e he x hx=>by
     rcases List.mem_append.1 he with h1|h1
     ·exact CN.tabs e h1 x hx
     ·simp at h1;subst h1;rw[hdd] at hx;exact(HH.out.tabs d hdE x hx).lt.mono (fun q hq=>hq.2)⟩
    refine⟨_,_,_,_,_,_,_,_,_,_,_,_,_,_,_,_,_,_,_,_,_,_,_,?_,rfl⟩
    refine⟨Zs++[(e0,d)],s++t,seen.push e0.born,clock,E'++[d'],_,_,Lib.hid ⟨?_,?_,?_,HT5.out,Nat.le_refl _,hC5,hS0 W5 HO5⟩⟩
    ·refine List.Perm.trans ?_ q1
     rw[hRs,List.append_assoc]
     refine List.Perm.append_left _ ?_
     show((e0,d) :: (s++t)).Perm _
     exact List.perm_middle.symm
    ·rw[Array.toList_push,q2,List.map_append];rfl
    ·rw[List.map_append,List.map_append,q3,hdd];rfl
   case measure=>
    obtain⟨hi,hRs,hkey,hval,hNr,hfree,hiter⟩:=HR.out
    obtain⟨q1,q2,q3,q4,q6⟩:=HQ.out
    have h1:W5.iterSeen r=seen.push e0.born:=by rw[World.iterSeen,HT5.out]
    have h2:=q1.length_eq
    rw[hRs,List.length_zip,HL.out] at h2
    have h3:=congrArg List.length q2
    simp at h2 h3
    rw[h1,hiter,Array.size_push,HL.out]
    omega
end Go.Proofs.YteembinfgbapgaaGreat
namespace Go.Proofs.YteembinfgbapgaaGreat
open Go.RowKit Go.Lib Go.Maps
def Keeps (D0 D:List Ty):Prop:=∀t∈D0,∃t',findY D t.s=some t'∧t'.old=t.old∧∃r,t'.ts=t.ts++r
theorem Keeps.do {D0 D:List Ty} (h:Keeps D0 D) (hok:CatOk D) {o:OpZ} (ho:OpOk o) (hk:¬o.k=2):Keeps D0 (doD D o):=by
 intro t ht
 obtain⟨t',hf,h1,r,h2⟩:=h t ht
 by_cases k0:o.k=0
 ·rw[doD,if_pos k0,defD]
  split
  ·refine⟨t',?_,h1,r,h2⟩
   unfold findY at hf ⊢
   rw[List.find?_append,hf];rfl
  ·exact⟨t',hf,h1,r,h2⟩
 ·by_cases k1:o.k=1
  ·have hok':CatOk (chD D o.s o.cs):=by have:=hok.do ho;rwa [doD,if_neg k0,if_pos k1] at this
   rw[doD,if_neg k0,if_pos k1]
   by_cases he:chE D o.s o.cs=0
   ·cases hu:findY D o.s with
    |none=>exact⟨t',by rw[chD,if_pos he,hu];exact hf,h1,r,h2⟩
    |some u=>
     have hch:chD D o.s o.cs=putY D (chY u o.cs):=by rw[chD,if_pos he,hu]
     rw[hch] at hok' ⊢
     obtain⟨hum,hus⟩:=findY_mem hu
     by_cases hs:t.s=o.s
     ·rw[hs,hu] at hf
      obtain rfl:=Option.some.inj hf
      refine⟨chY u o.cs,findY_self hok' (List.mem_map.2 ⟨u,hum,if_pos rfl⟩) (by show u.s=t.s;rw[hus,hs]),h1,r++[(allT u.last o.cs).1],?_⟩
      show u.ts++[_]=_
      rw[h2,List.append_assoc]
     ·obtain⟨a,b⟩:=findY_mem hf
      exact⟨t',findY_self hok' (List.mem_map.2 ⟨t',a,if_neg (by show ¬t'.s=u.s;rw[b,hus];exact hs)⟩) b,h1,r,h2⟩
   ·exact⟨t',by rw[chD,if_neg he];exact hf,h1,r,h2⟩
  ·rw[doD,if_neg k0,if_neg k1,if_neg hk]
   exact⟨t',hf,h1,r,h2⟩
theorem Keeps.perm {D L:List Ty} (hok:CatOk D) (hp:L.Perm D):Keeps D L:=fun t ht=>⟨t,by rw[findY_perm hp hok.nd];exact findY_self hok ht rfl,rfl,[],by simp⟩
theorem Keeps.fld {D0 D:List Ty} (h:Keeps D0 D) {t:Ty} (ht:t∈D0) {v:Nat} (h1:t.old≤v) {x:Tb} (hx:t.ts[v - t.old]?=some x):fldE D t.s (v:Int)=0∧fldL D t.s (v:Int)=x.n:=by
 obtain⟨t',hf,e1,r,e2⟩:=h t ht
 have hv:verTab D t.s (v:Int)=some x:=by
  rw[verTab,hf]
  show tabAt t' (v:Int)=_
  rw[tabAt,if_neg (by omega),e2,e1,show((v:Int) - (t.old:Int)).toNat=v - t.old by omega,List.getElem?_append_left (List.getElem?_eq_some_iff.1 hx).1,hx]
 exact⟨by rw[fldE,hv],by rw[fldL,hv]⟩
theorem SchemaStays_row (A:Option Addr) (cA:Nat) (os:List OpV) (B:Option Addr) (cB:Nat) (ms:List OpV) (w:World) (hA:Rd w A (cellsO os)) (hcA:os.length≤cA) (hG:∀x∈os,x.G w) (hz:(∀x∈os,x.S)∧os.length≤281474976710656) (hB:Rd w B (cellsO ms)) (hcB:ms.length≤cB) (hG':∀x∈ms,x.G w) (hz':(∀x∈ms,x.S)∧ms.length≤281474976710656):
 Calls Tryz.prog 8 #[.slice A os.length cA,.slice B ms.length cB] w fun e w'=>e=.returned (.bool true)∧Below w.heap.size w w':=by
 obtain⟨m,hm⟩:∃m,os.length=m:=⟨_,rfl⟩
 obtain⟨m2,hm2⟩:∃m,ms.length=m:=⟨_,rfl⟩
 rw[hm] at hcA ⊢
 rw[hm2] at hcB ⊢
 obtain⟨hS,hl⟩:=hz
 obtain⟨hS',hl'⟩:=hz'
 rw[hm] at hl
 rw[hm2] at hl'
 have HM:=Lib.hid hm;have HG:=Lib.hid hG;have HS:=Lib.hid hS;have HM2:=Lib.hid hm2;have HG2:=Lib.hid hG';have HS2:=Lib.hid hS'
 clear hm hG hS hm2 hG' hS'
 go_enter Tryz.func8,Tryz.ntmps8
 go_wp2_with (go_at_call 10;refine(few9_m A cA m os HM.out (by omega) _ hA HG.out HS.out).mono ?_)
 rintro e W1 ⟨rf,rfl,HB⟩
 cases rf
 ·go_wp2_with (go_at_call 11;refine(alive_calls9 _).mono ?_;rintro e wM ⟨rfl,hb'⟩;replace HB:=HB.trans (hb'.mono HB.size);clear hb')
  go_ret
  exact⟨rfl,HB⟩
 have hB1:=hB.below HB
 have HG3:=Lib.hid (fun x hx=>(HG2.out x hx).below HB:∀x∈ms,x.G W1)
 go_wp2_with (go_at_call 10;refine(few9_m B cB m2 ms HM2.out (by omega) _ hB1 HG3.out HS2.out).mono ?_)
 rintro e W2 ⟨rg,rfl,hb2⟩
 replace HB:=HB.trans (hb2.mono HB.size)
 cases rg
 ·go_wp2_with (go_at_call 11;refine(alive_calls9 _).mono ?_;rintro e wM ⟨rfl,hb'⟩;replace HB:=HB.trans (hb'.mono HB.size);clear hb')
  go_ret
  exact⟨rfl,HB⟩
 have hA2:=hA.below HB
 have HGA:=Lib.hid (fun x hx=>(HG.out x hx).below HB:∀x∈os,x.G W2)
 have HB0:=HB
 clear HB hb2 hB1 HG3
 go_upto_region 4 with (go_at_call 17;refine(made_m A cA m os HM.out (by omega) _ hA2 HGA.out HS.out).mono ?_;rintro e W3 ⟨cp,mp,D,L,K,n,c,rfl,St,hp,hr⟩)
 have HP:=Lib.hid hp;have HR:=Lib.hid hr
 have HSt:=Lib.hid St
 obtain⟨E,es,k,X,hE,hX,hXn,hcat,hlow,hok,href⟩:=St
 rw[←hE] at hok
 have HC:=Lib.hid hcat;have HOK:=Lib.hid hok;have HE:=Lib.hid hE;have HX:=Lib.hid hX;have HN:=Lib.hid hXn;have HF:=Lib.hid href
 have hb3:=hlow.b
 have HB3:=HB0.trans (hb3.mono HB0.size)
 have hB3:=hB.below HB3
 have HGB:=Lib.hid (fun x hx=>(HG2.out x hx).below HB3:∀x∈ms,x.G W3)
 clear hp hr hE hX hXn hcat hlow hok href hb3 HB0 hA2 HGA hB hA HG HG2
 go_upto_region 9 with (go_at_call 23;refine(Copy_m HC.out HOK.out).mono ?_;rintro e w4 ⟨op,om,D1,rfl,hp1,S4⟩)
 have hK1:Hid (Keeps D D1):=Lib.hid (by rw[←HE.out];exact Keeps.perm HOK.out hp1)
 clear hp1
 go_upto_region 10 with fail
 go_loopw [10,39] (fun _ i wr=>∃(k:Nat) (D':List Ty),k≤m2∧i=.int .i64 k∧ASt W3 op om D' wr∧Hid (Keeps D D')) (fun _ i _=>m2 - (intOf i).toNat)
 case atStart=>exact⟨0,D1,by omega,rfl,S4,hK1⟩
 case round=>
  obtain⟨k,D',hk,rfl,S5,hK⟩:=hrel
  clear S4 hK1
  have hb5:=S5.b
  have hBr:=hB3.below hb5
  by_cases hlt:k<m2
  ·obtain⟨x,hx⟩:∃x,ms[k]?=some x:=⟨_,List.getElem?_eq_getElem (by rw[HM2.out];exact hlt)⟩
   have hxm:=List.mem_of_getElem? hx
   have xG:=(HGB.out x hxm).below hb5
   have xS:=HS2.out x hxm
   obtain⟨ad,rfl,c0,c1,c2,c3,c4⟩:=hBr.op hx
   obtain⟨nf,hnf⟩:∃y,x.fs.length=y:=⟨_,rfl⟩
   obtain⟨nc,hnc⟩:∃y,x.cs.length=y:=⟨_,rfl⟩
   obtain⟨nl,hnl⟩:∃y,x.live.length=y:=⟨_,rfl⟩
   rw[hnf] at c2;rw[hnc] at c3;rw[hnl] at c4
   obtain⟨q,hq⟩:∃y,doE D' x.z=y:=⟨_,rfl⟩
   obtain⟨v,hv⟩:∃y,doV D' x.z=y:=⟨_,rfl⟩
   obtain⟨D2,hD⟩:∃y,doD D' x.z=y:=⟨_,rfl⟩
   have hK2:¬x.k=2→Keeps D D2:=fun h2=>by
    rw[←hD]
    exact hK.out.do (by obtain⟨_,_,_,_,_,_,h⟩:=S5;exact h) (opOk xG xS) h2
   have P:=OBox.new wr [.int .i64 x.k,.string x.s,.slice x.A nf x.a,.slice x.C nc x.c,.slice x.L nl x.l] 31
   have nb:=below_new (w:=wr) (.cells #[.int .i64 x.k,.string x.s,.slice x.A nf x.a,.slice x.C nc x.c,.slice x.L nl x.l] 31)
   have S6:=S5.below nb
   have xG2:=xG.below nb
   have HNF:=Lib.hid hnf;have HNC:=Lib.hid hnc;have HNL:=Lib.hid hnl;have HQ:=Lib.hid hq;have HV:=Lib.hid hv;have HD:=Lib.hid hD;have HXS:=Lib.hid xS;have HXG:=Lib.hid xG2;have HK2:=Lib.hid hK2
   clear hBr hx hnf hnc hnl hq hv hD xG xG2 xS S5 hb5 hK2
   go_upto_region 12 with fail
   generalize wr.alloc (.cells #[.int .i64 x.k,.string x.s,.slice x.A nf x.a,.slice x.C nc x.c,.slice x.L nl x.l] 31)=W6 at *
   obtain⟨p0,p1,p2,p3,p4⟩:=P.f5
   clear c0 c1 c2 c3 c4 nb
   by_cases h2:x.k=2
   ·have e1:(x.k == 2)=true:=by simpa using h2
    have HH2:=Lib.hid h2
    clear h2
    go_wp2
    go_roundw
    case rel=>exact⟨k+1,D',by omega,by go_num,S6,hK⟩
    case measure=>simp[intOf];omega
   ·have e1:(x.k == 2)=false:=by simpa using h2
    have hK3:=Lib.hid (HK2.out h2)
    clear h2
    go_upto_region 14 with (go_at_call 13;refine(does_a S6 x HXG.out HXS.out nf nc nl HNF.out HNC.out HNL.out q HQ.out v HV.out D2 HD.out).mono ?_;rintro e w7 ⟨rfl,S7,_⟩;clear S6 P p0 p1 p2 p3 p4 HXG)
    go_wp2
    go_roundw
    case rel=>exact⟨k+1,D2,by omega,by go_num,S7,hK3⟩
    case measure=>simp[intOf];omega
  ·obtain rfl:k=m2:=by omega
   go_upto_region 16 with fail
   have HBr:=S5.b
   have HB5:=HBr
   clear hBr hb5 HBr
   have hB0:=Below.refl wr.heap.size wr
   go_loopw [12,52] (fun _ i wx=>∃k:Nat,k≤n∧i=.int .i64 k∧Below wr.heap.size wr wx) (fun _ i _=>n - (intOf i).toNat)
   case atStart=>exact⟨0,by omega,rfl,hB0⟩
   case round=>
    rename World=>wx
    obtain⟨j,hj,rfl,HB⟩:=hrel
    clear hB0
    have h16:n≤16:=by
     have h1:=HP.out.length_eq
     rw[←HX.out,List.length_map,HN.out,←HE.out] at h1
     have:=HOK.out.len
     omega
    by_cases hjn:j<n
    ·have hwj:IntKind.i64.wrap ((j:Int)+1)=((j+1:Nat):Int):=(IntWalk.i64_in _ (by omega)).trans (by omega)
     obtain⟨x,hx⟩:∃x,X[j]?=some x:=⟨_,List.getElem?_eq_getElem (by rw[HN.out];exact hjn)⟩
     have hxm:=List.mem_of_getElem? hx
     have hxD:x.y∈D:=HP.out.subset (by rw[←HX.out];exact List.mem_map.2 ⟨x,hxm,rfl⟩)
     have hyo:x.y.Ok:=by have:=HOK.out;rw[HE.out] at this;exact this.ok _ hxD
     have hI:=HF.out.ty x hxm
     obtain⟨hfl,htl⟩:=hI.len
     obtain⟨nf,hnf⟩:∃m,x.fv.length=m:=⟨_,rfl⟩
     obtain⟨nt,hnt⟩:∃m,x.tv.length=m:=⟨_,rfl⟩
     obtain⟨top,htop⟩:∃m,x.y.top=m:=⟨_,rfl⟩
     have hlen:0<x.y.ts.length:=by cases hx:x.y.ts with|nil=>exact absurd hx hyo.ne|cons a r=>simp
     have hsum:x.y.old+nf=top+1:=by have h2:x.y.top=x.y.old+x.y.ts.length - 1:=rfl;omega
     have hhi:top≤64:=by have:=hyo.hi;omega
     obtain⟨nm,hnm⟩:∃q,x.y.s=q:=⟨_,rfl⟩
     have hmx:nm.size≤maxLen:=by rw[←hnm];exact name_max hyo.nm
     obtain⟨old,hold⟩:∃q,x.y.old=q:=⟨_,rfl⟩
     have HBx:=HB5.trans (HB.mono HB5.size)
     obtain⟨ad,rfl,c0,c1,c2,c3⟩:=(HF.out.row.below HBx).ty hx
     rw[hnf] at c2;rw[hnt] at c3;rw[hold] at c1 hsum;rw[hnm] at c0
     have hver:∀v:Nat,old≤v→v≤top→∃fv:FV,x.fv[v - old]?=some fv∧fldE D' nm (v:Int)=0∧fldL D' nm (v:Int)=fv.l:=fun v h1 h2=>by
      obtain⟨fv,hfv⟩:∃fv,x.fv[v - old]?=some fv:=⟨_,List.getElem?_eq_getElem (by omega)⟩
      obtain⟨tb,htb⟩:∃tb,x.y.ts[v - old]?=some tb:=⟨_,List.getElem?_eq_getElem (by omega)⟩
      have e1:(x.fv.map (·.l))[v - old]?=(x.y.ts.map (·.n))[v - old]?:=by rw[hI.eF]
      rw[List.getElem?_map,List.getElem?_map,hfv,htb] at e1
      have e2:fv.l=tb.n:=Option.some.inj e1
      rw[←hold] at htb h1
      obtain⟨a1,a2⟩:=hK.out.fld hxD h1 htb
      rw[hnm] at a1 a2
      exact⟨fv,hfv,a1,by rw[a2,e2]⟩
     have P:=OBox.new wx [.string nm,.int .i64 (old:Nat),.slice x.F nf x.f,.slice x.T nt x.t] 58
     have nb:=below_new (w:=wx) (.cells #[.string nm,.int .i64 (old:Nat),.slice x.F nf x.f,.slice x.T nt x.t] 58)
     have HB6:=HB.trans (nb.mono HB.size)
     have HVV:=Lib.hid hver;have HSU:=Lib.hid hsum;have HI:=Lib.hid hI;have HNF:=Lib.hid hnf
     clear hx hxD hyo hI hfl htl hnf hnt htop hlen hnm hold hver hsum hxm HB HBx
     go_upto_region 18 with fail
     generalize wx.alloc (.cells #[.string nm,.int .i64 (old:Nat),.slice x.F nf x.f,.slice x.T nt x.t] 58)=W6 at *
     obtain⟨p0,p1,p2,p3⟩:=P.f4
     clear c0 c1 c2 c3 nb
     go_upto_region 19 with fail
     have P0:=P
     have h1o:old≤top+1:=by have:=HSU.out;omega
     clear p0 p1 p2 p3 P
     go_loopw [13] (fun i wy=>∃v:Nat,old≤v∧v≤top+1∧i=.int .i64 v∧OBox wy wx.heap.size [.string nm,.int .i64 (old:Nat),.slice x.F nf x.f,.slice x.T nt x.t] 58∧Below wr.heap.size wr wy) (fun i _=>top+1 - (intOf i).toNat)
     case atStart=>exact⟨old,Nat.le_refl _,h1o,rfl,P0,HB6⟩
     case round=>
      rename World=>wy
      obtain⟨v,hv0,hv1,rfl,P,HB⟩:=hrel
      clear P0 HB6
      obtain⟨p0,p1,p2,p3⟩:=P.f4
      by_cases hvt:v≤top
      ·have hvv:decide ((v:Int)≤(top:Int))=true:=by simp;omega
       have hvw:IntKind.i64.wrap ((v:Int)+1)=((v+1:Nat):Int):=(IntWalk.i64_in _ (by omega)).trans (by omega)
       obtain⟨fv,hfv,f1,f2⟩:=HVV.out v hv0 hvt
       obtain⟨i,hi⟩:∃i,v - old=i:=⟨_,rfl⟩
       rw[hi] at hfv
       have hif:i<nf:=by have:=(List.getElem?_eq_some_iff.1 hfv).1;have:=HNF.out;omega
       have hws:IntKind.i64.wrap ((v:Int) - (old:Int))=(i:Int):=(IntWalk.i64_in _ (by omega)).trans (by omega)
       have i0:(0:Int)≤(i:Int):=by omega
       have i1:(i:Int)<(nf:Int):=by omega
       have hRF:∀W',Below wr.heap.size wr W'→Rd W' x.F (cellsFV x.fv)∧Rd W' fv.A (cellsF fv.l):=fun W' hb=>by
        have hb':=HB5.trans (hb.mono HB5.size)
        exact⟨HI.out.rF.rd.below hb',(HI.out.fl fv (List.mem_of_getElem? hfv)).below hb'⟩
       obtain⟨l,hl⟩:∃l,fv.l=l:=⟨_,rfl⟩
       obtain⟨z,hz⟩:∃z,l.length=z:=⟨_,rfl⟩
       have hz16:z≤16:=by rw[←hz,←hl,←f2];exact fldL_16 (by obtain⟨_,_,_,_,_,_,h⟩:=S5;exact h) _ _
       rw[hl] at f2 hRF
       have HF1:=Lib.hid f1;have HF2:=Lib.hid f2;have HZ:=Lib.hid hz;have HRF:=Lib.hid hRF;have HFV:=Lib.hid hfv;have HL1:=Lib.hid hl
       clear f1 f2 hz hRF hfv hl hi
       go_upto_region 21 with (go_at_call 24;refine(rNewest_m nm old nf x.F x.f x.T nt x.t top HSU.out (by omega) _).mono ?_;rintro e w6 ⟨rfl,hb6⟩;replace HB:=HB.trans (hb6.mono HB.size);replace P:=P.below hb6;clear hb6 p0 p1 p2 p3)
       obtain⟨p0,p1,p2,p3⟩:=P.f4
       go_upto_region 22 with (go_at_call 16;refine(Fields_a (S5.below HB) hmx (v:Int) 0 HF1.out l HF2.out z HZ.out).mono ?_;rintro e w7 ⟨B7,b7,rfl,_,r7,hb7⟩;replace HB:=HB.trans (hb7.mono HB.size);replace P:=P.below hb7;replace r7:=r7.rd;clear hb7 p0 p1 p2 p3)
       obtain⟨p0,p1,p2,p3⟩:=P.f4
       obtain⟨rF,rL⟩:=HRF.out _ HB
       obtain⟨ad2,hF2,f0⟩:=rF.at (j:=i) (u:=.slice fv.A z fv.a) (by rw[cellsFV,List.getElem?_map,HFV.out];show some (Value.slice fv.A fv.l.length fv.a)=_;rw[HL1.out,HZ.out])
       rw[hF2] at p2
       clear hF2 rF
       go_wp2_with (go_at_call 22;refine(Same6_m B7 fv.A b7 fv.a z z l l HZ.out HZ.out true (by simp[sameFB]) _ r7 rL (by omega) (by omega)).mono ?_;rintro e w8 ⟨rfl,hb8⟩;replace HB:=HB.trans (hb8.mono HB.size);replace P:=P.below hb8;clear hb8)
       go_roundw
       case rel=>exact⟨v+1,by omega,by omega,by go_num,P,HB⟩
       case measure=>simp[intOf];omega
      ·obtain rfl:v=top+1:=by omega
       have hvv:decide (((top+1:Nat):Int)≤(top:Int))=false:=by rw[decide_eq_false_iff_not];omega
       go_wp2_with (go_at_call 24;refine(rNewest_m nm old nf x.F x.f x.T nt x.t top HSU.out (by omega) _).mono ?_;rintro e w6 ⟨rfl,hb6⟩;replace HB:=HB.trans (hb6.mono HB.size);clear hb6)
       go_roundw
       case rel=>exact⟨j+1,by omega,by go_num,HB⟩
       case measure=>simp[intOf];omega
    ·obtain rfl:j=n:=by omega
     have HBx:=HB5.trans (HB.mono HB5.size)
     have S9:=HSt.out.below HBx
     replace HB:=HB3.trans (HBx.mono HB3.size)
     go_wp2_with (first
      |(go_at_call 11;refine(alive_calls9 _).mono ?_;rintro e wM ⟨rfl,HBz⟩;replace HB:=HB.trans (HBz.mono HB.size))
      |(go_at_call 21;refine(stands_b (S9.below HBz) HP.out HR.out).mono ?_;rintro e wS ⟨rfl,hbS⟩;replace HB:=HB.trans (hbS.mono HB.size)))
     go_ret
     exact⟨rfl,HB⟩
end Go.Proofs.YteembinfgbapgaaGreat
namespace Go.Proofs.YteembinfgbapgaaGreat.schemaStays
open Go.ChangeShapes Go.WideShapes Go.ChangeAt Go.RowKit Go.Joins
open Go.ChangeMaps (open_string shut_string)
theorem own:ownKnob Tryz.prog.godebug=none:=by kernel_rfl
theorem laidOut:laidOutB Tryz.prog=true:=by kernel_rfl
set_option maxRecDepth 100000 in
theorem lifted (os:Os) (started:os.Started) (H:Type) (enc:TypeId×Value→H):
 ReturnsInHanded {} Tryz.checked os 8 .any (Rows.schemaStaysSpec.pre6 enc Tryz.prog Tryz.f8 Rows.schemaStaysRow.domain false) (Rows.schemaStaysSpec.post enc Tryz.prog Tryz.f8 false true false false):=by
 refine returnsInHanded_of_change_sized (C:=Tryz.checked) own started (by kernel_rfl) Tryz.func8
  (ChangeSpec.witness6 (enc:=enc) (C:=Tryz.checked) false ⟨#[],#[.slice none 0 0,.slice none 0 0],[]⟩ 8 (by kernel_rfl) (by kernel_rfl) (by kernel_rfl) (by kernel_rfl)) ?_
 intro W base args ds gs before hval0 hW hcnd hsz0 _
 have hval:∀(j:Nat) t v,Tryz.f8.params[j]?=some t→args[j]?=some v→Value.okWide Tryz.prog W .any base t v:=hval0
 have hW':=hW
 obtain⟨p,q,hA0,hV,rfl,hfz,hnd⟩:=hW
 have hA:DataW.TrodAll enc Tryz.prog W 0 (fun _=>true) true Tryz.f8.params.toList args.toList ds p:=hA0
 rw[Tryz.params8] at hA hval
 obtain⟨v0,vs0,d0,ds0,p0,q0,hargs,rfl,rfl,h0,r0⟩:=trodAll_cons hA
 obtain⟨v1,vs1,d1,ds1,p1,q1,rfl,rfl,rfl,h1,r1⟩:=trodAll_cons r0
 obtain⟨rfl,rfl,rfl⟩:=trodAll_nil r1
 obtain rfl:args=#[v0,v1]:=by cases args;simp_all
 obtain⟨rfl,rfl⟩:=trodVars_none hV
 have k0:=h0
 have lt0:∀x∈p0,x.block<W.heap.size:=by obtain⟨m,hm⟩:=k0;exact DataW.trod_lt m _ _ _ hm
 obtain⟨a0,c0,l0,rfl,e0,f0,g0,s0,z0⟩:=open_ops (hval 0 22 v0 rfl rfl) h0
 replace z0:=z0 (SzT.of hsz0 (j:=0) rfl rfl)
 have k1:=h1
 have lt1:∀x∈p1,x.block<W.heap.size:=by obtain⟨m,hm⟩:=k1;exact DataW.trod_lt m _ _ _ hm
 obtain⟨a1,c1,l1,rfl,e1,f1,g1,s1,z1⟩:=open_ops (hval 1 22 v1 rfl rfl) h1
 replace z1:=z1 (SzT.of hsz0 (j:=1) rfl rfl)
 clear hA0 hval0 hsz0
 refine(SchemaStays_row a0 c0 l0 a1 c1 l1 W g0 e0 s0 z0 g1 e1 s1 z1).mono fun e W' ⟨he,bel⟩=>?_
 subst he
 exact⟨_,rfl,_,_,_,[],_,[],hW',trodAll_mk1 (shut_bool Tryz.underlying4 _),(trodAll_cons_mk (Below.trod laidOut (by kernel_rfl) (of_decide_eq_true (by kernel_rfl)) k0 bel lt0) (trodAll_cons_mk (Below.trod laidOut (by kernel_rfl) (of_decide_eq_true (by kernel_rfl)) k1 bel lt1) trodAll_mk0)),rfl,bel.frame _,fun h=>by cases h⟩
theorem over:Rows.schemaStaysRow.holds Tryz.pinned (OpenSpec.ofChange Rows.schemaStaysSpec):=
 OpenClaim.holds_of_wide 8 Tryz.f8 rfl rfl rfl rfl rfl rfl rfl ⟨rfl,rfl,rfl,rfl,rfl⟩ rfl rfl rfl rfl rfl (by kernel_rfl) Tryz.func8 (by kernel_rfl)
  (of_decide_eq_true (by kernel_rfl)) (by unfold Func.isWrapper;first|(rw[if_pos (by decide +kernel)];kernel_rfl)|(rw[if_neg (by decide +kernel)];exact⟨rfl,rfl⟩))
  (fun os started H enc _=>lifted os started H enc)
theorem proved:Rows.SchemaStaysSaid:=over
end Go.Proofs.YteembinfgbapgaaGreat.schemaStays
namespace Go.Proofs.YteembinfgbapgaaGreat
theorem schemaStays_holds:Rows.SchemaStaysSaid:=schemaStays.proved
end Go.Proofs.YteembinfgbapgaaGreat
