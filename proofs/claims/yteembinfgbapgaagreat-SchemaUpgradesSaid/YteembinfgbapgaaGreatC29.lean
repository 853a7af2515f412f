/- Merged out of: Ta Tj Kx Hw Hc Qu. -/
import Derived.Test.YteembinfgbapgaaGreatC00
import Derived.Test.YteembinfgbapgaaGreatC28
import Derived.Test.YteembinfgbapgaaGreatC27
import Derived.Test.YteembinfgbapgaaGreatC06
import Derived.Test.YteembinfgbapgaaGreatC10
set_option linter.unusedSimpArgs false
set_option linter.unusedVariables false
set_option maxRecDepth 100000
set_option maxHeartbeats 8000000
namespace Go.Proofs.YteembinfgbapgaaGreat
section
open Go.RowKit Go.Lib
structure Ty where
 s:ByteArray
 old:Nat
 ts:List Tb
def Ty.top (t:Ty):Nat:=t.old+t.ts.length - 1
def Ty.last (t:Ty):List Fd:=(t.ts.getLast?.map (·.n)).getD []
structure Ty.Ok (t:Ty):Prop where
 nm:nameB t.s=true
 lo:1≤t.old
 ne:t.ts≠[]
 hi:t.top≤64
 ok:∀x∈t.ts,TOk x
 ch:∀(i:Nat) (a b:Tb),t.ts[i]?=some a→t.ts[i+1]?=some b→b.o=a.n
 k0:∀a,t.ts[0]?=some a→a=keepT a.n
structure CatOk (D:List Ty):Prop where
 ok:∀t∈D,t.Ok
 nd:(D.map (·.s)).Nodup
 len:D.length≤16
def findY (D:List Ty) (nm:ByteArray):Option Ty:=D.find? fun t=>decide (t.s=nm)
theorem findY_mem {D:List Ty} {nm:ByteArray} {t:Ty} (h:findY D nm=some t):t∈D∧t.s=nm:=by
 refine⟨List.mem_of_find?_eq_some h,?_⟩
 have:=List.find?_some h
 simpa using this
theorem findY_none {D:List Ty} {nm:ByteArray} (h:findY D nm=none):∀t∈D,t.s≠nm:=by
 intro t ht e
 have:=List.find?_eq_none.1 h t ht
 simp[e] at this
def putY (D:List Ty) (y:Ty):List Ty:=D.map fun t=>if t.s=y.s then y else t
theorem putY_names (D:List Ty) (y:Ty):(putY D y).map (·.s)=D.map (·.s):=by
 unfold putY
 rw[List.map_map]
 refine List.map_congr_left (fun t _=>?_)
 show(if t.s=y.s then y else t).s=t.s
 split
 ·rename_i h;exact h.symm
 ·rfl
def defE (D:List Ty) (nm:ByteArray) (fs:List Fd):Int:=if nameB nm=false∨rightF fs=false then 60 else if findY D nm≠none∨16≤D.length then 91 else 0
def defD (D:List Ty) (nm:ByteArray) (fs:List Fd):List Ty:=if defE D nm fs=0 then D++[⟨nm,1,[keepT fs]⟩] else D
def chY (t:Ty) (cs:List Ch):Ty:=⟨t.s,t.old,t.ts++[(allT t.last cs).1]⟩
def chE (D:List Ty) (nm:ByteArray) (cs:List Ch):Int:=match findY D nm with
 |none=>90
 |some t=>if 64≤t.top then 91 else(allT t.last cs).2
def chV (D:List Ty) (nm:ByteArray) (cs:List Ch):Nat:=if chE D nm cs=0 then(match findY D nm with|none=>0|some t=>t.top+1) else 0
def chD (D:List Ty) (nm:ByteArray) (cs:List Ch):List Ty:=if chE D nm cs=0 then(match findY D nm with|none=>D|some t=>putY D (chY t cs)) else D
def useB (t:Ty) (live:List Int):Bool:=live.any fun x=>decide ((t.old:Int)≤x) && decide (x<(t.top:Int))
def reY (t:Ty):Ty:=⟨t.s,t.top,[keepT t.last]⟩
def reE (D:List Ty) (nm:ByteArray) (live:List Int):Int:=match findY D nm with
 |none=>90
 |some t=>if useB t live=true then 93 else 0
def reV (D:List Ty) (nm:ByteArray) (live:List Int):Nat:=if reE D nm live=0 then(match findY D nm with|none=>0|some t=>t.ts.length - 1) else 0
def reD (D:List Ty) (nm:ByteArray) (live:List Int):List Ty:=if reE D nm live=0 then(match findY D nm with|none=>D|some t=>putY D (reY t)) else D
structure OpZ where
 k:Int
 s:ByteArray
 fs:List Fd
 cs:List Ch
 live:List Int
def doD (D:List Ty) (o:OpZ):List Ty:=if o.k=0 then defD D o.s o.fs else if o.k=1 then chD D o.s o.cs else if o.k=2 then reD D o.s o.live else D
def doE (D:List Ty) (o:OpZ):Int:=if o.k=0 then defE D o.s o.fs else if o.k=1 then chE D o.s o.cs else if o.k=2 then reE D o.s o.live else 0
def doV (D:List Ty) (o:OpZ):Nat:=if o.k=0 then 0 else if o.k=1 then chV D o.s o.cs else if o.k=2 then reV D o.s o.live else 0
def OpOk (o:OpZ):Prop:=NmS o.fs∧∀c∈o.cs,c.g.s.size≤281474976710656∧0≤c.d.b∧c.d.b<18446744073709551616
theorem last_ok {t:Ty} (h:t.Ok):∃x,t.ts.getLast?=some x∧t.last=x.n∧TOk x:=by
 cases hx:t.ts.getLast? with
 |none=>exact absurd (List.getLast?_eq_none_iff.1 hx) h.ne
 |some x=>exact⟨x,rfl,by rw[Ty.last,hx];rfl,h.ok x (List.mem_of_getLast? hx)⟩
theorem last_right {t:Ty} (h:t.Ok):rightF t.last=true∧NmS t.last:=by
 obtain⟨x,_,e,hx⟩:=last_ok h
 rw[e]
 exact⟨(rightT_iff.1 hx.r).2.1,hx.n⟩
theorem keep_self {l:List Fd} (h:rightF l=true):keepT l=keepT (keepT l).n:=by
 have e:(keepT l).n=l:=by rw[keepT_right h]
 rw[e]
theorem CatOk.nil:CatOk []:=⟨fun t h=>(by cases h),List.nodup_nil,by simp⟩
theorem CatOk.put {D:List Ty} (h:CatOk D) {y:Ty} (hy:y.Ok):CatOk (putY D y):=by
 refine⟨fun t ht=>?_,by rw[putY_names];exact h.nd,by rw[putY,Kz];exact h.len⟩
 obtain⟨x,hx,rfl⟩:=X5.1 ht
 show(if x.s=y.s then y else x).Ok
 split
 ·exact hy
 ·exact h.ok x hx
theorem CatOk.def {D:List Ty} (h:CatOk D) {nm:ByteArray} {fs:List Fd} (hs:NmS fs):CatOk (defD D nm fs):=by
 unfold defD
 split
 ·rename_i he
  unfold defE at he
  split at he
  ·omega
  ·rename_i h1
   split at he
   ·omega
   ·rename_i h2
    have hn:nameB nm=true:=by cases hx:nameB nm with|true=>rfl|false=>exact absurd (.inl hx) h1
    have hr:rightF fs=true:=by cases hx:rightF fs with|true=>rfl|false=>exact absurd (.inr hx) h1
    have hf:findY D nm=none:=Classical.byContradiction fun hc=>h2 (.inl hc)
    have hl:D.length<16:=by have:¬16≤D.length:=fun hc=>h2 (.inr hc);omega
    refine⟨fun t ht=>?_,?_,by simp;omega⟩
    ·rcases X7.1 ht with h3|h3
     ·exact h.ok t h3
     ·simp at h3;subst h3
      exact⟨hn,by show 1≤1;omega,by simp,by show 1+1 - 1≤64;omega,fun x hx=>by simp at hx;subst hx;exact TOk.keep hr hs,fun i a b h1 h2=>by simp at h2,fun a h1=>by simp at h1;subst h1;exact keep_self hr⟩
    ·rw[List.map_append,List.nodup_append]
     refine⟨h.nd,by simp,fun a ha b hb=>?_⟩
     simp at hb;subst hb
     obtain⟨t,ht,rfl⟩:=X5.1 ha
     exact findY_none hf t ht
 ·exact h
theorem goT_okY {t:Tb} (ht:TOk t):∀cs:List Ch,(∀c∈cs,c.g.s.size≤281474976710656∧0≤c.d.b∧c.d.b<18446744073709551616)→(goT t cs).2=0→TOk (goT t cs).1:=by
 intro cs
 induction cs generalizing t with
 |nil=>intro _ _;exact ht
 |cons c r ih=>
  intro hc he
  obtain⟨h1,h2,h3⟩:=hc c List.mem_cons_self
  by_cases e:makeE t.n c=0
  ·by_cases e2:composeE t (makeT t.n c)=0
   ·rw[goT_next e e2] at he ⊢
    exact ih (ht.comp (TOk.make e ht.n h1 h2 h3) e2) (fun x hx=>hc x (List.mem_cons_of_mem _ hx)) he
   ·rw[goT_comp e e2] at he
    exact absurd he (by decide)
  ·rw[goT_make e] at he
   exact absurd he e
theorem goT_o {t:Tb}:∀cs:List Ch,(goT t cs).2=0→(goT t cs).1.o=t.o:=by
 intro cs
 induction cs generalizing t with
 |nil=>intro _;rfl
 |cons c r ih=>
  intro he
  by_cases e:makeE t.n c=0
  ·by_cases e2:composeE t (makeT t.n c)=0
   ·rw[goT_next e e2] at he ⊢
    rw[ih he,composeT,if_pos e2]
    rfl
   ·rw[goT_comp e e2] at he
    exact absurd he (by decide)
  ·rw[goT_make e] at he
   exact absurd he e
theorem allT_o {l:List Fd} {cs:List Ch} (h:(allT l cs).2=0):(allT l cs).1.o=l:=by
 by_cases hr:rightF l=true
 ·rw[allT,if_pos hr] at h ⊢
  rw[goT_o cs h,keepT_right hr]
 ·rw[allT,if_neg hr] at h
  exact absurd h (by decide)
theorem chY_ok {t:Ty} (h:t.Ok) {cs:List Ch} (hc:∀c∈cs,c.g.s.size≤281474976710656∧0≤c.d.b∧c.d.b<18446744073709551616) (h64:t.top<64) (he:(allT t.last cs).2=0):(chY t cs).Ok:=by
 obtain⟨hr,hs⟩:=last_right h
 have hne:=h.ne
 have hlen:0<t.ts.length:=by cases hx:t.ts with|nil=>exact absurd hx hne|cons a r=>simp
 refine⟨h.nm,h.lo,by simp[chY],?_,fun x hx=>?_,fun i a b h1 h2=>?_,fun a h1=>?_⟩
 ·have h1:(chY t cs).top=t.old+(t.ts.length+1) - 1:=by simp[Ty.top,chY]
  have h2:t.top=t.old+t.ts.length - 1:=rfl
  omega
 ·rcases X7.1 hx with h1|h1
  ·exact h.ok x h1
  ·simp at h1;subst h1
   rw[allT,if_pos hr] at he ⊢
   exact goT_okY (TOk.keep hr hs) cs hc he
 ·have hil:i+1<t.ts.length+1:=by have:=(J6.1 h2).1;simpa[chY] using this
  simp only[chY] at h1 h2
  rcases(by omega:i+1<t.ts.length∨i+1=t.ts.length) with h3|h3
  ·rw[Xk (by omega)] at h1 h2
   exact h.ch i a b h1 h2
  ·rw[Xk (by omega)] at h1
   rw[h3,Q8 (J9 _),Nat.sub_self] at h2
   simp at h2
   subst h2
   rw[allT_o he,Ty.last,List.getLast?_eq_getElem?,←h3,Nat.add_sub_cancel,h1]
   rfl
 ·simp only[chY] at h1
  rw[Xk hlen] at h1
  exact h.k0 a h1
theorem reY_ok {t:Ty} (h:t.Ok):(reY t).Ok:=by
 obtain⟨hr,hs⟩:=last_right h
 have hlen:0<t.ts.length:=by cases hx:t.ts with|nil=>exact absurd hx h.ne|cons a r=>simp
 have h2:t.top=t.old+t.ts.length - 1:=rfl
 have h3:=h.lo
 refine⟨h.nm,by show 1≤t.top;omega,by simp[reY],?_,fun x hx=>?_,fun i a b h1 h2=>by simp[reY] at h2,fun a h1=>by simp[reY] at h1;subst h1;exact keep_self hr⟩
 ·show t.top+1 - 1≤64
  have:=h.hi
  omega
 ·simp[reY] at hx;subst hx;exact TOk.keep hr hs
theorem CatOk.do {D:List Ty} (h:CatOk D) {o:OpZ} (ho:OpOk o):CatOk (doD D o):=by
 unfold doD
 split
 ·exact h.def ho.1
 ·split
  ·unfold chD
   split
   ·rename_i he
    cases hf:findY D o.s with
    |none=>exact h
    |some t=>
     simp only[chE,hf] at he
     split at he
     ·omega
     ·exact h.put (chY_ok (h.ok t (findY_mem hf).1) ho.2 (by omega) he)
   ·exact h
  ·split
   ·unfold reD
    split
    ·cases hf:findY D o.s with
     |none=>exact h
     |some t=>exact h.put (reY_ok (h.ok t (findY_mem hf).1))
    ·exact h
   ·exact h
end
section
open Go.ChangeShapes Go.WideShapes Go.ChangeAt Go.RowKit Go.Joins Go.Deep
open Go.ChangeMaps (open_string shut_string)
structure OpV where
 k:Int
 s:ByteArray
 fs:List Fd
 A:Option Addr
 a:Nat
 cs:List (Ch×Value)
 C:Option Addr
 c:Nat
 live:List Int
 L:Option Addr
 l:Nat
def OpV.z (x:OpV):OpZ:=⟨x.k,x.s,x.fs,x.cs.map (·.1),x.live⟩
def OpV.cells (x:OpV):List Value:=[.int .i64 x.k,.string x.s,.slice x.A x.fs.length x.a,.slice x.C x.cs.length x.c,.slice x.L x.live.length x.l]
structure OpV.G (w:World) (x:OpV):Prop where
 k0:-9223372036854775808≤x.k
 k1:x.k≤9223372036854775807
 s:x.s.size≤maxLen
 fs:Rd w x.A (cellsF x.fs)
 fa:x.fs.length≤x.a
 cs:Rd w x.C (cellsC x.cs)
 ca:x.cs.length≤x.c
 cg:∀p∈x.cs,ChG w p
 live:Rd w x.L (cellsI x.live)
 la:x.live.length≤x.l
structure OpV.S (x:OpV):Prop where
 s:x.s.size≤281474976710656
 fs:∀f∈x.fs,f.s.size≤281474976710656
 fn:x.fs.length≤281474976710656
 cs:∀p∈x.cs,ChS p
 cn:x.cs.length * 112≤140737488355328
 ln:x.live.length≤281474976710656
section
variable {H:Type} {enc:TypeId×Value→H} {w:World} {base b0:Nat} {r:Reach} {spare:Nat→Bool} {held:Bool} {v:Value} {d:DataW H} {p:List MemPlace}
theorem elem_row {α:Type} (a0:α) {F:α→List Value} {k:Nat} (hk:∀a,(F a).length=k) (hk1:0<k) {t e:TypeId} (hu:Tryz.prog.underlying t=some (.slice e)) (hc:Tryz.prog.cellsOf e=k) (hb:1≤Tryz.prog.bytesOf e) {G Z:α→Prop}
 (E:∀{n:Nat} {cs:List Value} {x:DataW H×List MemPlace},DataW.trod enc Tryz.prog w base spare held n e cs=some x→∃a,cs=F a∧G a∧(SzT e x.1→Z a))
 {n:Nat} {cs:List Value} {x:DataW H×List MemPlace} (h:DataW.trod enc Tryz.prog w base spare held n t cs=some x):
 ∃(A:Option Addr) (c:Nat) (l:List α),cs=[.slice A l.length c]∧l.length≤c∧c≤maxLen∧Rd w A (l.flatMap F)∧(∀a∈l,G a)∧(SzT t x.1→(∀a∈l,Z a)∧l.length≤281474976710656∧l.length * Tryz.prog.bytesOf e≤140737488355328):=by
 rcases open_slice hu h with ⟨hcs,_⟩|⟨y,l,c,m,n,D,Pl,hcs,_,hl,hm,hmm,hx,hi⟩
 ·exact⟨none,0,[],hcs,J9 _,X8 _,Rd.nil _ _,by simp,fun _=>⟨by simp,X8 _,by simp⟩⟩
 ·subst hcs
  have hlm:l≤m:=by rw[hmm];split <;> omega
  have hel:∀i,∃a:α,i<l→G a∧(SzT e (D i)→Z a)∧∀j,j<k→w.cell? ((y.add (i * k)).add j)=(F a)[j]?:=fun i=>by
   by_cases hlt:i<l
   ·obtain⟨cs',hc',ht⟩:=hi i (by omega)
    rw[hc] at hc'
    obtain⟨_,_,hat⟩:=World.cells?_some hc'
    obtain⟨a,rfl,hG,hZ⟩:=E ht
    exact⟨a,fun _=>⟨hG,hZ,fun j hj=>hat j hj⟩⟩
   ·exact⟨a0,fun h=>absurd h hlt⟩
  let B:=fun i=>Classical.choose (hel i)
  have hB:∀i,i<l→G (B i)∧(SzT e (D i)→Z (B i))∧∀j,j<k→w.cell? ((y.add (i * k)).add j)=(F (B i))[j]?:=fun i=>Classical.choose_spec (hel i)
  have hlen:((List.range l).map B).length=l:=by simp
  refine⟨some y,c,(List.range l).map B,by rw[hlen],by rw[hlen];exact hl,hm,fun _=>⟨y,rfl,fun j u hj=>?_⟩,?_,fun hz=>⟨?_,?_⟩⟩
  ·have hjl:j<l * k:=by
    have:=(J6.1 hj).1
    rw[flat_len hk,hlen] at this;exact this
   have hq:j / k<l:=Nat.div_lt_of_lt_mul (by rw[Nat.mul_comm];exact hjl)
   have hr:j % k<k:=Nat.mod_lt _ hk1
   have hj2:j=j / k * k+j % k:=by rw[Nat.mul_comm];exact(Nat.div_add_mod j k).symm
   rw[hj2,flat_get hk (l:=(List.range l).map B) (i:=j / k) (a:=B (j / k)) (by simp[hq]) _ hr] at hj
   rw[hj2,←Addr.add_add,(hB _ hq).2.2 _ hr,hj]
  ·intro b hb
   simp at hb
   obtain⟨i,hi,rfl⟩:=hb
   exact(hB i hi).1
  ·intro b hb
   simp at hb
   obtain⟨i,hi,rfl⟩:=hb
   refine(hB i hi).2.1 ?_
   have hx1:x.1=.slice ((List.range l).map D) ((List.range (m - l)).map fun j=>D (l+j)):=congrArg Prod.fst hx
   rw[hx1] at hz
   exact hz.elem hu (X5.2 ⟨i,by simp[hi],rfl⟩)
  ·rw[hlen]
   have hx1:x.1=.slice ((List.range l).map D) ((List.range (m - l)).map fun j=>D (l+j)):=congrArg Prod.fst hx
   rw[hx1] at hz
   have h2:=hz.lenB hu
   have h1:=hz.len hu hb
   have:=reachBytes_lt
   simp at h1 h2
   exact⟨reach48 h1,by omega⟩
theorem elem_op {n:Nat} {cs:List Value} {x:DataW H×List MemPlace} (h:DataW.trod enc Tryz.prog w base spare held n 31 cs=some x):
 ∃o:OpV,cs=o.cells∧o.G w∧(SzT 31 x.1→o.S):=by
 obtain⟨xs,m,_,rfl,hl,hxl,hf⟩:=DataW.trod_struct Tryz.underlying31 h
 have c5:Tryz.prog.cellsOf 31=5:=by kernel_rfl
 have k0:Tryz.prog.cellsOf 9=1:=by kernel_rfl
 have k1:Tryz.prog.cellsOf 3=1:=by kernel_rfl
 have k2:Tryz.prog.cellsOf 27=1:=by kernel_rfl
 have k3:Tryz.prog.cellsOf 28=1:=by kernel_rfl
 have k4:Tryz.prog.cellsOf 29=1:=by kernel_rfl
 rw[c5] at hl
 obtain⟨c0,c1,c2,c3,c4,rfl⟩:∃a b c d e,cs=[a,b,c,d,e]:=by
  match cs,hl with
  |[a,b,c,d,e],_=>exact⟨a,b,c,d,e,rfl⟩
 obtain⟨y0,y1,y2,y3,y4,rfl⟩:∃a b c d e,xs=[a,b,c,d,e]:=by
  match xs,hxl with
  |[a,b,c,d,e],_=>exact⟨a,b,c,d,e,rfl⟩
 have h0:DataW.trod enc Tryz.prog w base spare held m 3 (([c0,c1,c2,c3,c4].drop 0).take (Tryz.prog.cellsOf 3))=some y0:=hf 0 _ rfl
 rw[k1] at h0
 have h1:DataW.trod enc Tryz.prog w base spare held m 9 (([c0,c1,c2,c3,c4].drop 1).take (Tryz.prog.cellsOf 9))=some y1:=hf 1 _ rfl
 rw[k0] at h1
 have h2:DataW.trod enc Tryz.prog w base spare held m 27 (([c0,c1,c2,c3,c4].drop 2).take (Tryz.prog.cellsOf 27))=some y2:=hf 2 _ rfl
 rw[k2] at h2
 have h3:DataW.trod enc Tryz.prog w base spare held m 28 (([c0,c1,c2,c3,c4].drop 3).take (Tryz.prog.cellsOf 28))=some y3:=hf 3 _ rfl
 rw[k3] at h3
 have h4:DataW.trod enc Tryz.prog w base spare held m 29 (([c0,c1,c2,c3,c4].drop 4).take (Tryz.prog.cellsOf 29))=some y4:=hf 4 _ rfl
 rw[k4] at h4
 obtain⟨o,e0,_,w0⟩:=DataW.trod_int Tryz.underlying3 h0
 obtain⟨s,e1,e3,w1⟩:=DataW.trod_string Tryz.underlying9 h1
 obtain⟨A,a,fs,e2,fa,_,fr,_,fz⟩:=elem_row (⟨⟨#[]⟩,0,0⟩:Fd) (k:=3) (F:=fun f=>[.string f.s,.int .i64 f.k,.int .i64 f.l]) (fun _=>rfl) (by omega) Tryz.underlying27 (by kernel_rfl) (of_decide_eq_true (by kernel_rfl)) elem_fld h2
 obtain⟨C,c,ch,e4,ca,_,cr,cg,cz⟩:=elem_row (⟨⟨0,⟨#[]⟩,⟨⟨#[]⟩,0,0⟩,⟨0,0,⟨#[]⟩⟩,[]⟩,.slice none 0 0⟩:Ch×Value) (k:=9) (F:=fun x=>chL x.1 x.2) (G:=ChG w) (Z:=ChS) (fun _=>rfl) (by omega) Tryz.underlying28 (by kernel_rfl) (of_decide_eq_true (by kernel_rfl))
  (fun ht=>by
    obtain⟨c,Q,qc,e,h1,h2,h3,h4,h5,h6⟩:=elem_chg ht
    exact⟨(c,.slice Q c.q.length qc),e,⟨h1,h2,Q,qc,rfl,h3,h4,h5⟩,h6⟩) h3
 obtain⟨L,q,lc,e5,la,_,lr,lz⟩:=elem_ints h4
 simp at e0 e1 e2 e4 e5
 subst e0 e1 e2 e4 e5
 refine⟨⟨o,s,fs,A,a,ch,C,c,q,L,lc⟩,rfl,⟨(wf_i64 w0).1,(wf_i64 w0).2,w1,fr,fa,cr,ca,cg,lr,la⟩,fun hz=>?_⟩
 have z1:=hz.part Tryz.underlying31 (j:=1) rfl rfl rfl
 have z2:=hz.part Tryz.underlying31 (j:=2) rfl rfl rfl
 have z3:=hz.part Tryz.underlying31 (j:=3) rfl rfl rfl
 have z4:=hz.part Tryz.underlying31 (j:=4) rfl rfl rfl
 subst e3
 have hb:Tryz.prog.bytesOf 73=112:=by kernel_rfl
 exact⟨reach48 z1.str,(fz z2).1,(fz z2).2.1,(cz z3).1,by rw[←hb];exact(cz z3).2.2,Q7 (lz z4) (by decide)⟩
def cellsO (os:List OpV):List Value:=os.flatMap OpV.cells
theorem open_ops (hv:Value.okWide Tryz.prog w r b0 22 v) (h:DataW.Trod enc Tryz.prog w base spare held 22 v d p):
 ∃A c os,v=.slice A os.length c∧os.length≤c∧c≤maxLen∧Rd w A (cellsO os)∧(∀x∈os,x.G w)∧(SzT 22 d→(∀x∈os,x.S)∧os.length≤281474976710656):=
 open_row (⟨0,⟨#[]⟩,[],none,0,[],none,0,[],none,0⟩:OpV) (k:=5) (F:=OpV.cells) (fun _=>rfl) (by omega) Tryz.underlying22 (by kernel_rfl) (of_decide_eq_true (by kernel_rfl)) elem_op hv h
end
end
section
open Go.RowKit
theorem enc_length {vk bits:Int} {tx:ByteArray} {k l:Int} (hr:rightB vk bits tx k l=true):((encL bits tx k l).length:Int)=longZ k l:=by
 obtain⟨hm,rfl,ht,hf⟩:=right_may hr
 unfold encL
 split
 ·rename_i h
  subst h
  rw[long_12 hm,bl_length]
  simpa using ht
 ·rename_i h
  rw[leL_length]
  have:=long_cases hm h
  omega
theorem num_leL (m w:Nat):numN (leL (m:Int) w)=m % 2 ^ (8 * w):=by
 induction w with
 |zero=>simp[leL,numN,Nat.mod_one]
 |succ w ih=>
  rw[leL_succ,numN_append,leL_length,ih,byteZ_nat,Nat.mul_add,Nat.pow_add,Nat.mod_mul]
  have e:numN [UInt8.ofNat ((m / 2 ^ (8 * w) % 256:Nat):Int).toNat]=m / 2 ^ (8 * w) % 256:=by
   have hx:m / 2 ^ (8 * w) % 256<256:=Nat.mod_lt _ (by decide)
   generalize m / 2 ^ (8 * w) % 256=x at hx ⊢
   rw[Int.toNat_natCast]
   simp[numN];omega
  rw[e]
theorem num_enc (n:Int) (w:Nat) (h0:0≤n):numL (leL n w)=n % ((2 ^ (8 * w):Nat):Int):=by
 obtain⟨m,rfl⟩:=Int.eq_ofNat_of_zero_le h0
 rw[numL,num_leL];rfl
theorem sign_mod (n:Int) (w:Nat) (hw:widthB w=true) (h0:0≤n) (h1:n<18446744073709551616):signZ (n % ((2 ^ (8 * w):Nat):Int)) w=signZ n w:=by
 have hc:=width_cases hw
 rcases(by omega:w=1∨w=2∨w=4∨w=8) with rfl|rfl|rfl|rfl
 ·rw[show ((1:Nat):Int)=1 from rfl,show((2 ^ (8 * 1):Nat):Int)=256 by decide,signZ_arith1 n h0 h1,signZ_arith1 _ (by omega) (by omega)]
  simp
 ·rw[show ((2:Nat):Int)=2 from rfl,show((2 ^ (8 * 2):Nat):Int)=65536 by decide,signZ_arith2 n h0 h1,signZ_arith2 _ (by omega) (by omega)]
  simp
 ·rw[show ((4:Nat):Int)=4 from rfl,show((2 ^ (8 * 4):Nat):Int)=4294967296 by decide,signZ_arith4 n h0 h1,signZ_arith4 _ (by omega) (by omega)]
  simp
 ·rw[show ((8:Nat):Int)=8 from rfl,show((2 ^ (8 * 8):Nat):Int)=18446744073709551616 by decide,Int.emod_eq_of_lt h0 h1]
theorem dec_enc {vk bits:Int} {tx:ByteArray} {k l:Int} (h0:0≤bits) (h1:bits<18446744073709551616) (hr:rightB vk bits tx k l=true):
 vk=k∧decZ (encL bits tx k l) k l=bits∧decT (encL bits tx k l) k=tx∧decB (encL bits tx k l) k l=true:=by
 have hlen:=enc_length hr
 obtain⟨hm,rfl,ht,hf⟩:=right_may hr
 have key:decZ (encL bits tx vk l) vk l=bits∧decT (encL bits tx vk l) vk=tx:=by
  by_cases hk:vk=12
  ·subst hk
   have hb:bits=0:=by simpa[fitB] using hf
   subst hb
   refine⟨by simp[decZ,rawZ,btw],?_⟩
   rw[decT,encL,if_pos rfl,if_pos rfl,strL_bl]
  ·have hlc:=long_cases hm hk
   have htx:tx=⟨#[]⟩:=by
    rw[if_neg hk] at ht
    have:tx.size=0:=by omega
    obtain⟨a⟩:=tx
    have:a=#[]:=Array.eq_empty_of_size_eq_zero this
    rw[this]
   refine⟨?_,by rw[decT,if_neg hk,htx]⟩
   have hwb:widthB (longZ vk l)=true:=by simp[widthB];omega
   obtain⟨W,hW⟩:∃W:Nat,longZ vk l=W:=⟨(longZ vk l).toNat,by omega⟩
   rw[hW] at hlc hwb hlen
   have he:encL bits tx vk l=leL bits W:=by rw[encL,if_neg hk,hW];rfl
   rw[he] at hlen ⊢
   have hraw:rawZ (leL bits W) vk l=bits % ((2 ^ (8 * W):Nat):Int):=by
    rw[rawZ,if_neg hk,leL_length,hW,if_pos ⟨rfl,hwb⟩,num_enc _ _ h0]
   rw[decZ,hraw,leL_length]
   rw[fitB,if_neg hk] at hf
   split
   ·rename_i h5
    have h5':=btw_iff.1 h5
    rw[if_neg (by omega),hW,h5] at hf
    rw[sign_mod _ _ hwb h0 h1]
    simpa[fitsB,hwb,show ¬vk=10 by omega,show ¬vk=11 by omega] using hf
   ·rename_i h5
    have h5:btw 5 vk 8=false:=by simpa using h5
    have hlt:bits<((2 ^ (8 * W):Nat):Int):=by
     split at hf
     ·have:bits≤1:=by simpa using hf
      rcases(by omega:W=1∨W=2∨W=4∨W=8) with rfl|rfl|rfl|rfl <;> simp <;> omega
     ·rw[hW,h5] at hf
      have hsz:vk=10∨vk=11→W=8:=fun h=>by
       have hW':=hW
       rw[longZ,if_pos hm,if_neg hk] at hW'
       rcases h with rfl|rfl
       ·have:sizeZ 10=8:=by decide
        omega
       ·have:sizeZ 11=8:=by decide
        omega
      simp only[fitsB,hwb,Bool.true_and,Bool.false_eq_true,if_false,Bool.or_eq_true,decide_eq_true_eq] at hf
      rcases(by omega:W=1∨W=2∨W=4∨W=8) with rfl|rfl|rfl|rfl <;> simp[topZ] at hf ⊢ <;> omega
    exact Int.emod_eq_of_lt h0 hlt
 refine⟨rfl,key.1,key.2,?_⟩
 rw[decB,key.1,key.2,hr,hlen]
 simp
theorem leL_zero (w:Nat):leL 0 w=List.replicate w 0:=by
 induction w with
 |zero=>rfl
 |succ w ih=>rw[leL_succ,ih,List.replicate_succ',show(byteZ 0 w).toNat=0 by simp[byteZ]];rfl
theorem zero_right {k l:Int} (h:mayB k l=true):∃n:Nat,longZ k l=n∧0<n∧n≤64∧rightB k 0 (zeroL k l) k l=true∧encL 0 (zeroL k l) k l=List.replicate n 0:=by
 by_cases hk:k=12
 ·subst hk
  have hb:=btw_iff.1 (mayB_12▸h)
  refine⟨l.toNat,by rw[long_12 h];omega,by omega,by omega,?_,?_⟩
  ·have hs:((zeroL 12 l).size:Int)=l:=by rw[zeroL,if_pos rfl,strL_size,List.length_replicate];omega
   simp only[rightB,h,hs,if_true,decide_true,Bool.and_true,Bool.true_and]
   simp[fitB]
  ·rw[encL,if_pos rfl,zeroL,if_pos rfl,bl_strL]
 ·have hlc:=long_cases h hk
  have hl0:=(mayB_of h hk).1
  subst hl0
  have hw:=long_width h hk
  refine⟨(longZ k 0).toNat,by omega,by omega,by omega,?_,?_⟩
  ·have hz:zeroL k 0=⟨#[]⟩:=by rw[zeroL,if_neg hk]
   have hf:fitB 0 k 0=true:=by
    rw[fitB,if_neg hk]
    split
    ·rfl
    ·rw[bit_fits (by decide) (by decide) hw];rfl
   rw[hz]
   simp only[rightB,h,hf,if_neg hk,decide_true,Bool.and_true,Bool.true_and]
   rfl
  ·rw[encL,if_neg hk,leL_zero]
theorem loc_name {fs:List Fd} (hr:rightF fs=true) {k:Nat} {f:Fd} (hf:fs[k]?=some f) {n:Nat} (hn:n=sizeF fs):∃at_,(layL fs)[k]?=some at_∧locF fs n f.s=.inr (at_,f):=by
 obtain⟨_,_,hz⟩:=rightF_ok hr hf
 have hk:=(J6.1 hf).1
 have hk2:k<(layL fs).length:=by rw[layL_length hr];exact hk
 refine⟨(layL fs)[k],J4 hk2,?_⟩
 rw[locF,hr,decide_eq_true hn]
 simp only[Bool.and_true,if_true]
 rw[hz,if_neg (by omega)]
 simp only[Int.toNat_natCast,List.getD_eq_getElem?_getD,hf,J4 hk2,Option.getD_some]
theorem dec_zero {f:Fd} (h:mayB f.k f.l=true):decF (List.replicate f.n 0) f=⟨f.k,0,zeroL f.k f.l⟩∧decE (List.replicate f.n 0) f.k f.l=0:=by
 obtain⟨n,hn,_,_,hr,he⟩:=zero_right h
 have:n=f.n:=by have:=f.n_eq;omega
 subst this
 obtain⟨_,h2,h3,h4⟩:=dec_enc (by omega) (by omega) hr
 rw[he] at h2 h3 h4
 refine⟨?_,by simp[decE,h4]⟩
 rw[decF,if_pos h4,h2,h3]
theorem get_new {fs:List Fd} (hr:rightF fs=true) {k:Nat} {f:Fd} (hf:fs[k]?=some f) {z:Nat} (hz:sizeF fs=z):getV (List.replicate z 0) fs f.s=⟨f.k,0,zeroL f.k f.l⟩∧getE (List.replicate z 0) fs f.s=0:=by
 obtain⟨at_,_,hl⟩:=loc_name hr hf (n:=z) hz.symm
 obtain⟨hm,hin,_,_⟩:=loc_in hl
 have e:((List.replicate z (0:UInt8)).drop at_).take f.n=List.replicate f.n 0:=by
  rw[List.drop_replicate,List.take_replicate];congr 1;omega
 have hl2:locF fs (List.replicate z (0:UInt8)).length f.s=.inr (at_,f):=by rw[List.length_replicate];exact hl
 obtain⟨h1,h2⟩:=dec_zero hm
 refine⟨?_,?_⟩
 ·simp only[getV,hl2,e,h1]
 ·simp only[getE,hl2,e,h2]
theorem over_get {b x:List UInt8} {i:Nat} (h:i+x.length≤b.length) (p:Nat):(overB b i x)[p]?=if i≤p∧p<i+x.length then x[p - i]? else b[p]?:=by
 unfold overB
 have ht:(b.take i).length=i:=by rw[Qv];omega
 rcases(by omega:p<i∨(i≤p∧p<i+x.length)∨i+x.length≤p) with hp|hp|hp
 ·rw[if_neg (by omega),Xj,Xk (by omega),X9,if_pos hp]
 ·rw[if_pos hp,Xj,Q8 (by omega),ht,Xk (by omega)]
 ·rw[if_neg (by omega),Q8 (by rw[Qz,ht];omega),Qz,ht,List.getElem?_drop]
  congr 1;omega
theorem over_at {b x:List UInt8} {i:Nat} (h:i+x.length≤b.length):((overB b i x).drop i).take x.length=x:=by
 apply Xv
 intro p
 rw[X9,List.getElem?_drop,over_get h]
 by_cases hp:p<x.length
 ·rw[if_pos hp,if_pos (by omega)];congr 1;omega
 ·rw[if_neg hp,Xy (by omega)]
theorem over_far {b x:List UInt8} {i j n:Nat} (h:i+x.length≤b.length) (hd:j+n≤i∨i+x.length≤j):((overB b i x).drop j).take n=(b.drop j).take n:=by
 apply Xv
 intro p
 rw[X9,X9,List.getElem?_drop,List.getElem?_drop,over_get h]
 by_cases hp:p<n
 ·rw[if_pos hp,if_pos hp,if_neg (by omega)]
 ·rw[if_neg hp,if_neg hp]
theorem endF_mono {fs:List Fd} (hm:MayF fs) {k l:Nat} (h:k≤l):endF 0 (fs.take k)≤endF 0 (fs.take l):=by
 have e:fs.take l=(fs.take l).take k++(fs.take l).drop k:=(List.take_append_drop _ _).symm
 rw[List.take_take,Nat.min_eq_left h] at e
 rw[e,endF_append]
 exact endF_ge fun g hg=>hm g (List.mem_of_mem_take (List.mem_of_mem_drop hg))
theorem lay_apart {fs:List Fd} (hr:rightF fs=true) {i j:Nat} {f g:Fd} {a b:Nat} (hf:fs[i]?=some f) (hg:fs[j]?=some g) (ha:(layL fs)[i]?=some a) (hb:(layL fs)[j]?=some b) (hij:i<j):a+f.n≤b:=by
 obtain⟨hm,_⟩:=rightF_may hr
 rw[layL,if_pos hr,Kv,seqF_get 0 hf] at ha
 rw[layL,if_pos hr,Kv,seqF_get 0 hg] at hb
 simp at ha hb
 have h1:=(seqF_take hf).2
 have h2:=endF_mono hm (show i+1≤j by omega)
 have h3:=atF_le (nx:=endF 0 (fs.take j)) (hm g (J7 hg))
 omega
theorem set_get {fs:List Fd} (hr:rightF fs=true) {b:List UInt8} (hb:b.length=sizeF fs) {i:Nat} {f:Fd} (hf:fs[i]?=some f) (v:Vl) (h0:0≤v.b) (h1:v.b<18446744073709551616) (he:setE b fs f.s v=0):
 (setB b fs f.s v).length=sizeF fs∧getV (setB b fs f.s v) fs f.s=v∧getE (setB b fs f.s v) fs f.s=0∧
 ∀(j:Nat) (g:Fd),j≠i→fs[j]?=some g→getV (setB b fs f.s v) fs g.s=getV b fs g.s∧getE (setB b fs f.s v) fs g.s=getE b fs g.s:=by
 obtain⟨at_,ha,hl⟩:=loc_name hr hf hb
 obtain⟨hm,hin,_,hn⟩:=loc_in hl
 have hrr:rightB v.k v.b v.t f.k f.l=true:=by
  cases h:rightB v.k v.b v.t f.k f.l
  ·simp[setE,hl,h] at he
  ·rfl
 have hel:=encL_length hrr
 have hs:setB b fs f.s v=overB b at_ (encL v.b v.t f.k f.l):=by simp[setB,hl,hrr]
 have hfit:at_+(encL v.b v.t f.k f.l).length≤b.length:=by rw[hel];exact hin
 have hlen:(setB b fs f.s v).length=sizeF fs:=by rw[hs,overB_length hfit,hb]
 have hl2:locF fs (setB b fs f.s v).length f.s=.inr (at_,f):=by rw[hlen,←hb];exact hl
 have hcut:((setB b fs f.s v).drop at_).take f.n=encL v.b v.t f.k f.l:=by rw[hs,←hel];exact over_at hfit
 have hk:v.k=f.k:=(right_may hrr).2.1
 obtain⟨_,d1,d2,d3⟩:=dec_enc h0 h1 hrr
 refine⟨hlen,?_,?_,fun j g hj hg=>?_⟩
 ·simp only[getV,hl2,hcut,decF]
  rw[if_pos d3,d1,d2,←hk]
 ·simp only[getE,hl2,hcut,decE]
  rw[if_pos d3]
 ·obtain⟨at2,ha2,hlg⟩:=loc_name hr hg hb
  have hlg2:locF fs (setB b fs f.s v).length g.s=.inr (at2,g):=by rw[hlen,←hb];exact hlg
  have hfar:((setB b fs f.s v).drop at2).take g.n=(b.drop at2).take g.n:=by
   rw[hs]
   refine over_far hfit ?_
   rw[hel]
   rcases(by omega:j<i∨i<j) with h|h
   ·exact .inl (lay_apart hr hg hf ha2 ha h)
   ·exact .inr (lay_apart hr hf hg ha ha2 h)
  exact⟨by simp only[getV,hlg,hlg2,hfar],by simp only[getE,hlg,hlg2,hfar]⟩
def InvS (fs:List Fd) (b:List UInt8) (was:List Vl):Prop:=b.length=sizeF fs∧was.length=fs.length∧∀(j:Nat) (f:Fd) (v:Vl),fs[j]?=some f→was[j]?=some v→getV b fs f.s=v∧getE b fs f.s=0
theorem invS_set {fs:List Fd} (hr:rightF fs=true) {b:List UInt8} {was:List Vl} (h:InvS fs b was) {i:Nat} {f:Fd} (hf:fs[i]?=some f) (v:Vl) (h0:0≤v.b) (h1:v.b<18446744073709551616) (he:setE b fs f.s v=0):InvS fs (setB b fs f.s v) (was.set i v):=by
 obtain⟨hb,hw,hall⟩:=h
 obtain⟨s1,s2,s3,s4⟩:=set_get hr hb hf v h0 h1 he
 refine⟨s1,by rw[List.length_set];exact hw,fun j g u hg hu=>?_⟩
 by_cases hij:j=i
 ·subst hij
  rw[hf] at hg;cases hg
  rw[List.getElem?_set_self (by have:=(J6.1 hf).1;omega)] at hu
  cases hu
  exact⟨s2,s3⟩
 ·rw[X6 (by omega)] at hu
  obtain⟨g1,g2⟩:=s4 j g hij hg
  obtain⟨a1,a2⟩:=hall j g u hg hu
  exact⟨g1.trans a1,g2.trans a2⟩
def Fd.zv (f:Fd):Vl:=⟨f.k,0,zeroL f.k f.l⟩
theorem invS_new {fs:List Fd} (hr:rightF fs=true) {z:Nat} (hz:sizeF fs=z):InvS fs (List.replicate z 0) (fs.map Fd.zv):=by
 refine⟨by rw[List.length_replicate,hz],by simp,fun j f v hf hv=>?_⟩
 rw[Kv,hf] at hv
 cases hv
 exact get_new hr hf hz
def cellsVl (vs:List Vl):List Value:=vs.flatMap fun v=>[.int .i64 v.k,.int .u64 v.b,.string v.t]
theorem cellsVl_get {vs:List Vl} {i:Nat} {v:Vl} (h:vs[i]?=some v):(cellsVl vs)[i * 3]?=some (.int .i64 v.k)∧(cellsVl vs)[i * 3+1]?=some (.int .u64 v.b)∧(cellsVl vs)[i * 3+2]?=some (.string v.t):=by
 induction vs generalizing i with
 |nil=>simp at h
 |cons g r ih=>
  cases i with
  |zero=>simp at h;subst h;exact⟨rfl,rfl,rfl⟩
  |succ i=>
   have:=ih (i:=i) (by simpa using h)
   rw[cellsVl,List.flatMap_cons]
   refine⟨?_,?_,?_⟩
   ·rw[show (i+1) * 3=i * 3+3 by omega,Q8 (by simp)];simpa[cellsVl] using this.1
   ·rw[show (i+1) * 3+1=i * 3+1+3 by omega,Q8 (by simp)];simpa[cellsVl] using this.2.1
   ·rw[show (i+1) * 3+2=i * 3+2+3 by omega,Q8 (by simp)];simpa[cellsVl] using this.2.2
theorem cellsVl_set {vs:List Vl} {i:Nat} (h:i<vs.length) (v:Vl):(((cellsVl vs).set (i * 3) (.int .i64 v.k)).set (i * 3+1) (.int .u64 v.b)).set (i * 3+2) (.string v.t)=cellsVl (vs.set i v):=by
 induction vs generalizing i with
 |nil=>simp at h
 |cons g r ih=>
  cases i with
  |zero=>rfl
  |succ i=>
   have:=ih (i:=i) (by simpa using h)
   simp only[cellsVl,List.flatMap_cons,J2] at *
   rw[←this]
   rw[show (i+1) * 3=(i * 3)+1+1+1 by omega,show(i * 3)+1+1+1+1=(i * 3+1)+1+1+1 by omega,show(i * 3)+1+1+1+2=(i * 3+2)+1+1+1 by omega]
   simp
theorem OBox.set {w:World} {b:Nat} {cs:List Value} {T:TypeId} (h:OBox w b cs T) (j:Nat) (v:Value):OBox (w.setCell ⟨b,j,none⟩ v) b (cs.set j v) T:=by
 obtain⟨hlt,hk⟩:=Qk.1 h
 show(w.heap.modify b _)[b]?=_
 rw[Array.getElem?_eq_getElem (by rw[Array.size_modify];exact hlt),Array.getElem_modify_self,hk]
 simp
theorem OBox.other {w:World} {b:Nat} {cs:List Value} {T:TypeId} (h:OBox w b cs T) {p:Addr} (hp:p.block≠b) (v:Value):OBox (w.setCell p v) b cs T:=(J5 w p v b (fun e=>hp e.symm)).trans h
theorem OBox.vals {w:World} {b:Nat} {vs:List Vl} {T:TypeId} (h:OBox w b (cellsVl vs) T) {i:Nat} {v:Vl} (hv:vs[i]?=some v):
 w.cell? ⟨b,i * 3,none⟩=some (.int .i64 v.k)∧w.cell? ⟨b,i * 3+1,none⟩=some (.int .u64 v.b)∧w.cell? ⟨b,i * 3+2,none⟩=some (.string v.t):=by
 obtain⟨g0,g1,g2⟩:=cellsVl_get hv
 exact⟨h.cell g0,h.cell g1,h.cell g2⟩
def VRow (w:World) (bd:Addr) (vs:List Vl):Prop:=bd=⟨bd.block,0,none⟩∧OBox w bd.block (cellsVl vs) 71
theorem VRow.below {w w1:World} {bd:Addr} {vs:List Vl} (h:VRow w bd vs) (hb:Below w.heap.size w w1):VRow w1 bd vs:=⟨h.1,h.2.below hb⟩
theorem add_at {bd:Addr} (h:bd=⟨bd.block,0,none⟩) (n:Nat):bd.add n=⟨bd.block,n,none⟩:=by
 obtain⟨b,o,s⟩:=bd
 have h:(⟨b,o,s⟩:Addr)=⟨b,0,none⟩:=h
 cases h
 unfold Addr.add;split <;> simp_all
theorem VRow.at {w:World} {bd:Addr} {vs:List Vl} (h:VRow w bd vs) {i:Nat} {v:Vl} (hv:vs[i]?=some v):
 (w.cell? (bd.add (i * 3))=some (.int .i64 v.k)∧w.cell? ⟨(bd.add (i * 3)).block,(bd.add (i * 3)).off+(0+1),none⟩=some (.int .u64 v.b)∧w.cell? ⟨(bd.add (i * 3)).block,(bd.add (i * 3)).off+(1+1),none⟩=some (.string v.t))∧
 w.frozen? (bd.add (i * 3))=false∧w.frozen? ⟨(bd.add (i * 3)).block,(bd.add (i * 3)).off+(0+1),none⟩=false∧w.frozen? ⟨(bd.add (i * 3)).block,(bd.add (i * 3)).off+(1+1),none⟩=false:=by
 obtain⟨h0,h1,h2⟩:=h.2.vals hv
 rw[add_at h.1]
 exact⟨⟨h0,h1,h2⟩,h.2.frz _,h.2.frz _,h.2.frz _⟩
theorem VRow.at2 {w:World} {bd:Addr} {vs:List Vl} (h:VRow w bd vs) {i:Nat} {v:Vl} (hv:vs[i]?=some v):
 (w.cell? ⟨(bd.add (i * 3)).block,(bd.add (i * 3)).off+1,none⟩=some (.int .u64 v.b)∧w.cell? ⟨(bd.add (i * 3)).block,(bd.add (i * 3)).off+2,none⟩=some (.string v.t))∧
 w.frozen? ⟨(bd.add (i * 3)).block,(bd.add (i * 3)).off+1,none⟩=false∧w.frozen? ⟨(bd.add (i * 3)).block,(bd.add (i * 3)).off+2,none⟩=false:=by
 obtain⟨⟨_,h1,h2⟩,_,z1,z2⟩:=h.at hv
 exact⟨⟨h1,h2⟩,z1,z2⟩
def put3 (w:World) (p:Addr) (v:Vl):World:=((w.setCell p (.int .i64 v.k)).setCell ⟨p.block,p.off+(0+1),none⟩ (.int .u64 v.b)).setCell ⟨p.block,p.off+(1+1),none⟩ (.string v.t)
theorem VRow.set {w:World} {bd:Addr} {vs:List Vl} (h:VRow w bd vs) {i:Nat} (hi:i<vs.length) (v:Vl):VRow (put3 w (bd.add (i * 3)) v) bd (vs.set i v):=by
 refine⟨h.1,?_⟩
 rw[put3,add_at h.1,←cellsVl_set hi]
 exact((h.2.set _ _).set _ _).set _ _
theorem Rd.vl {w:World} {A:Option Addr} {vs:List Vl} (h:Rd w A (cellsVl vs)) {k:Nat} {v:Vl} (hv:vs[k]?=some v):∃ad,A=some ad∧w.cell? (ad.add (k * 3))=some (.int .i64 v.k)∧w.cell? ⟨(ad.add (k * 3)).block,(ad.add (k * 3)).off+(0+1),none⟩=some (.int .u64 v.b)∧w.cell? ⟨(ad.add (k * 3)).block,(ad.add (k * 3)).off+(1+1),none⟩=some (.string v.t):=by
 obtain⟨g0,g1,g2⟩:=cellsVl_get hv
 obtain⟨ad,rfl,h0⟩:=h.at g0
 obtain⟨_,e1,h1⟩:=h.at g1
 obtain⟨_,e2,h2⟩:=h.at g2
 cases e1;cases e2
 rw[add_part _ _ 0] at h1
 rw[add_part _ _ 1] at h2
 exact⟨ad,rfl,h0,h1,h2⟩
theorem infoVal:(Tryz.prog.info? 71).map (fun i=>(i.zero,i.size,i.bytes))=some (some (.agg #[.int .i64 0,.int .u64 0,.string ⟨#[]⟩]),3,32):=by kernel_rfl
end
section
open Go.RowKit Go.Lib
theorem castL_right {v:Vl} {f g:Fd} (b0:0≤v.b) (b1:v.b<18446744073709551616) (h:rightB v.k v.b v.t f.k f.l=true) (hc:castsB f.k f.l g.k g.l=true):rightB (castL v f g).k (castL v f g).b (castL v f g).t g.k g.l=true:=by
 rw[castL,if_pos ⟨h,hc⟩]
 exact(cast_right (tx:=v.t) b0 b1 h hc).1
theorem setE_right {fs:List Fd} (hr:rightF fs=true) {b:List UInt8} (hb:b.length=sizeF fs) {i:Nat} {f:Fd} (hf:fs[i]?=some f) {v:Vl} (h:rightB v.k v.b v.t f.k f.l=true):setE b fs f.s v=0:=by
 obtain⟨at_,_,hl⟩:=loc_name hr hf hb
 simp only[setE,hl]
 rw[if_pos h]
end
end Go.Proofs.YteembinfgbapgaaGreat
