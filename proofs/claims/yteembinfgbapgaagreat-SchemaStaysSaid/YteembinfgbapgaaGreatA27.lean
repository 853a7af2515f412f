/- Merged out of: Ta Tj. -/
import Derived.Test.YteembinfgbapgaaGreatA26
import Derived.Test.YteembinfgbapgaaGreatA25
set_option linter.unusedSimpArgs false
set_option linter.unusedVariables false
set_option maxRecDepth 100000
set_option maxHeartbeats 8000000
namespace Go.Proofs.YteembinfgbapgaaGreat
section
open Go.RowKit Go.Lib
structure Ty where
 s:ByteArray
 old:Nat
 ts:List Tb
def Ty.top (t:Ty):Nat:=t.old+t.ts.length - 1
def Ty.last (t:Ty):List Fd:=(t.ts.getLast?.map (·.n)).getD []
structure Ty.Ok (t:Ty):Prop where
 nm:nameB t.s=true
 lo:1≤t.old
 ne:t.ts≠[]
 hi:t.top≤64
 ok:∀x∈t.ts,TOk x
 ch:∀(i:Nat) (a b:Tb),t.ts[i]?=some a→t.ts[i+1]?=some b→b.o=a.n
 k0:∀a,t.ts[0]?=some a→a=keepT a.n
structure CatOk (D:List Ty):Prop where
 ok:∀t∈D,t.Ok
 nd:(D.map (·.s)).Nodup
 len:D.length≤16
def findY (D:List Ty) (nm:ByteArray):Option Ty:=D.find? fun t=>decide (t.s=nm)
theorem findY_mem {D:List Ty} {nm:ByteArray} {t:Ty} (h:findY D nm=some t):t∈D∧t.s=nm:=by
 refine⟨List.mem_of_find?_eq_some h,?_⟩
 have:=List.find?_some h
 simpa using this
theorem findY_none {D:List Ty} {nm:ByteArray} (h:findY D nm=none):∀t∈D,t.s≠nm:=by
 intro t ht e
 have:=List.find?_eq_none.1 h t ht
 simp[e] at this
def putY (D:List Ty) (y:Ty):List Ty:=D.map fun t=>if t.s=y.s then y else t
theorem putY_names (D:List Ty) (y:Ty):(putY D y).map (·.s)=D.map (·.s):=by
 unfold putY
 rw[List.map_map]
 refine List.map_congr_left (fun t _=>?_)
 show(if t.s=y.s then y else t).s=t.s
 split
 ·rename_i h;exact h.symm
 ·rfl
def defE (D:List Ty) (nm:ByteArray) (fs:List Fd):Int:=if nameB nm=false∨rightF fs=false then 60 else if findY D nm≠none∨16≤D.length then 91 else 0
def defD (D:List Ty) (nm:ByteArray) (fs:List Fd):List Ty:=if defE D nm fs=0 then D++[⟨nm,1,[keepT fs]⟩] else D
def chY (t:Ty) (cs:List Ch):Ty:=⟨t.s,t.old,t.ts++[(allT t.last cs).1]⟩
def chE (D:List Ty) (nm:ByteArray) (cs:List Ch):Int:=match findY D nm with
 |none=>90
 |some t=>if 64≤t.top then 91 else(allT t.last cs).2
def chV (D:List Ty) (nm:ByteArray) (cs:List Ch):Nat:=if chE D nm cs=0 then(match findY D nm with|none=>0|some t=>t.top+1) else 0
def chD (D:List Ty) (nm:ByteArray) (cs:List Ch):List Ty:=if chE D nm cs=0 then(match findY D nm with|none=>D|some t=>putY D (chY t cs)) else D
def useB (t:Ty) (live:List Int):Bool:=live.any fun x=>decide ((t.old:Int)≤x) && decide (x<(t.top:Int))
def reY (t:Ty):Ty:=⟨t.s,t.top,[keepT t.last]⟩
def reE (D:List Ty) (nm:ByteArray) (live:List Int):Int:=match findY D nm with
 |none=>90
 |some t=>if useB t live=true then 93 else 0
def reV (D:List Ty) (nm:ByteArray) (live:List Int):Nat:=if reE D nm live=0 then(match findY D nm with|none=>0|some t=>t.ts.length - 1) else 0
def reD (D:List Ty) (nm:ByteArray) (live:List Int):List Ty:=if reE D nm live=0 then(match findY D nm with|none=>D|some t=>putY D (reY t)) else D
structure OpZ where
 k:Int
 s:ByteArray
 fs:List Fd
 cs:List Ch
 live:List Int
def doD (D:List Ty) (o:OpZ):List Ty:=if o.k=0 then defD D o.s o.fs else if o.k=1 then chD D o.s o.cs else if o.k=2 then reD D o.s o.live else D
def doE (D:List Ty) (o:OpZ):Int:=if o.k=0 then defE D o.s o.fs else if o.k=1 then chE D o.s o.cs else if o.k=2 then reE D o.s o.live else 0
def doV (D:List Ty) (o:OpZ):Nat:=if o.k=0 then 0 else if o.k=1 then chV D o.s o.cs else if o.k=2 then reV D o.s o.live else 0
def OpOk (o:OpZ):Prop:=NmS o.fs∧∀c∈o.cs,c.g.s.size≤281474976710656∧0≤c.d.b∧c.d.b<18446744073709551616
theorem last_ok {t:Ty} (h:t.Ok):∃x,t.ts.getLast?=some x∧t.last=x.n∧TOk x:=by
 cases hx:t.ts.getLast? with
 |none=>exact absurd (List.getLast?_eq_none_iff.1 hx) h.ne
 |some x=>exact⟨x,rfl,by rw[Ty.last,hx];rfl,h.ok x (List.mem_of_getLast? hx)⟩
theorem last_right {t:Ty} (h:t.Ok):rightF t.last=true∧NmS t.last:=by
 obtain⟨x,_,e,hx⟩:=last_ok h
 rw[e]
 exact⟨(rightT_iff.1 hx.r).2.1,hx.n⟩
theorem keep_self {l:List Fd} (h:rightF l=true):keepT l=keepT (keepT l).n:=by
 have e:(keepT l).n=l:=by rw[keepT_right h]
 rw[e]
theorem CatOk.nil:CatOk []:=⟨fun t h=>(by cases h),List.nodup_nil,by simp⟩
theorem CatOk.put {D:List Ty} (h:CatOk D) {y:Ty} (hy:y.Ok):CatOk (putY D y):=by
 refine⟨fun t ht=>?_,by rw[putY_names];exact h.nd,by rw[putY,List.length_map];exact h.len⟩
 obtain⟨x,hx,rfl⟩:=List.mem_map.1 ht
 show(if x.s=y.s then y else x).Ok
 split
 ·exact hy
 ·exact h.ok x hx
theorem CatOk.def {D:List Ty} (h:CatOk D) {nm:ByteArray} {fs:List Fd} (hs:NmS fs):CatOk (defD D nm fs):=by
 unfold defD
 split
 ·rename_i he
  unfold defE at he
  split at he
  ·omega
  ·rename_i h1
   split at he
   ·omega
   ·rename_i h2
    have hn:nameB nm=true:=by cases hx:nameB nm with|true=>rfl|false=>exact absurd (.inl hx) h1
    have hr:rightF fs=true:=by cases hx:rightF fs with|true=>rfl|false=>exact absurd (.inr hx) h1
    have hf:findY D nm=none:=Classical.byContradiction fun hc=>h2 (.inl hc)
    have hl:D.length<16:=by have:¬16≤D.length:=fun hc=>h2 (.inr hc);omega
    refine⟨fun t ht=>?_,?_,by simp;omega⟩
    ·rcases List.mem_append.1 ht with h3|h3
     ·exact h.ok t h3
     ·simp at h3;subst h3
      exact⟨hn,by show 1≤1;omega,by simp,by show 1+1 - 1≤64;omega,fun x hx=>by simp at hx;subst hx;exact TOk.keep hr hs,fun i a b h1 h2=>by simp at h2,fun a h1=>by simp at h1;subst h1;exact keep_self hr⟩
    ·rw[List.map_append,List.nodup_append]
     refine⟨h.nd,by simp,fun a ha b hb=>?_⟩
     simp at hb;subst hb
     obtain⟨t,ht,rfl⟩:=List.mem_map.1 ha
     exact findY_none hf t ht
 ·exact h
theorem goT_okY {t:Tb} (ht:TOk t):∀cs:List Ch,(∀c∈cs,c.g.s.size≤281474976710656∧0≤c.d.b∧c.d.b<18446744073709551616)→(goT t cs).2=0→TOk (goT t cs).1:=by
 intro cs
 induction cs generalizing t with
 |nil=>intro _ _;exact ht
 |cons c r ih=>
  intro hc he
  obtain⟨h1,h2,h3⟩:=hc c List.mem_cons_self
  by_cases e:makeE t.n c=0
  ·by_cases e2:composeE t (makeT t.n c)=0
   ·rw[goT_next e e2] at he ⊢
    exact ih (ht.comp (TOk.make e ht.n h1 h2 h3) e2) (fun x hx=>hc x (List.mem_cons_of_mem _ hx)) he
   ·rw[goT_comp e e2] at he
    exact absurd he (by decide)
  ·rw[goT_make e] at he
   exact absurd he e
theorem goT_o {t:Tb}:∀cs:List Ch,(goT t cs).2=0→(goT t cs).1.o=t.o:=by
 intro cs
 induction cs generalizing t with
 |nil=>intro _;rfl
 |cons c r ih=>
  intro he
  by_cases e:makeE t.n c=0
  ·by_cases e2:composeE t (makeT t.n c)=0
   ·rw[goT_next e e2] at he ⊢
    rw[ih he,composeT,if_pos e2]
    rfl
   ·rw[goT_comp e e2] at he
    exact absurd he (by decide)
  ·rw[goT_make e] at he
   exact absurd he e
theorem allT_o {l:List Fd} {cs:List Ch} (h:(allT l cs).2=0):(allT l cs).1.o=l:=by
 by_cases hr:rightF l=true
 ·rw[allT,if_pos hr] at h ⊢
  rw[goT_o cs h,keepT_right hr]
 ·rw[allT,if_neg hr] at h
  exact absurd h (by decide)
theorem chY_ok {t:Ty} (h:t.Ok) {cs:List Ch} (hc:∀c∈cs,c.g.s.size≤281474976710656∧0≤c.d.b∧c.d.b<18446744073709551616) (h64:t.top<64) (he:(allT t.last cs).2=0):(chY t cs).Ok:=by
 obtain⟨hr,hs⟩:=last_right h
 have hne:=h.ne
 have hlen:0<t.ts.length:=by cases hx:t.ts with|nil=>exact absurd hx hne|cons a r=>simp
 refine⟨h.nm,h.lo,by simp[chY],?_,fun x hx=>?_,fun i a b h1 h2=>?_,fun a h1=>?_⟩
 ·have h1:(chY t cs).top=t.old+(t.ts.length+1) - 1:=by simp[Ty.top,chY]
  have h2:t.top=t.old+t.ts.length - 1:=rfl
  omega
 ·rcases List.mem_append.1 hx with h1|h1
  ·exact h.ok x h1
  ·simp at h1;subst h1
   rw[allT,if_pos hr] at he ⊢
   exact goT_okY (TOk.keep hr hs) cs hc he
 ·have hil:i+1<t.ts.length+1:=by have:=(List.getElem?_eq_some_iff.1 h2).1;simpa[chY] using this
  simp only[chY] at h1 h2
  rcases(by omega:i+1<t.ts.length∨i+1=t.ts.length) with h3|h3
  ·rw[List.getElem?_append_left (by omega)] at h1 h2
   exact h.ch i a b h1 h2
  ·rw[List.getElem?_append_left (by omega)] at h1
   rw[h3,List.getElem?_append_right (Nat.le_refl _),Nat.sub_self] at h2
   simp at h2
   subst h2
   rw[allT_o he,Ty.last,List.getLast?_eq_getElem?,←h3,Nat.add_sub_cancel,h1]
   rfl
 ·simp only[chY] at h1
  rw[List.getElem?_append_left hlen] at h1
  exact h.k0 a h1
theorem reY_ok {t:Ty} (h:t.Ok):(reY t).Ok:=by
 obtain⟨hr,hs⟩:=last_right h
 have hlen:0<t.ts.length:=by cases hx:t.ts with|nil=>exact absurd hx h.ne|cons a r=>simp
 have h2:t.top=t.old+t.ts.length - 1:=rfl
 have h3:=h.lo
 refine⟨h.nm,by show 1≤t.top;omega,by simp[reY],?_,fun x hx=>?_,fun i a b h1 h2=>by simp[reY] at h2,fun a h1=>by simp[reY] at h1;subst h1;exact keep_self hr⟩
 ·show t.top+1 - 1≤64
  have:=h.hi
  omega
 ·simp[reY] at hx;subst hx;exact TOk.keep hr hs
theorem CatOk.do {D:List Ty} (h:CatOk D) {o:OpZ} (ho:OpOk o):CatOk (doD D o):=by
 unfold doD
 split
 ·exact h.def ho.1
 ·split
  ·unfold chD
   split
   ·rename_i he
    cases hf:findY D o.s with
    |none=>exact h
    |some t=>
     simp only[chE,hf] at he
     split at he
     ·omega
     ·exact h.put (chY_ok (h.ok t (findY_mem hf).1) ho.2 (by omega) he)
   ·exact h
  ·split
   ·unfold reD
    split
    ·cases hf:findY D o.s with
     |none=>exact h
     |some t=>exact h.put (reY_ok (h.ok t (findY_mem hf).1))
    ·exact h
   ·exact h
end
section
open Go.ChangeShapes Go.WideShapes Go.ChangeAt Go.RowKit Go.Joins Go.Deep
open Go.ChangeMaps (open_string shut_string)
structure OpV where
 k:Int
 s:ByteArray
 fs:List Fd
 A:Option Addr
 a:Nat
 cs:List (Ch×Value)
 C:Option Addr
 c:Nat
 live:List Int
 L:Option Addr
 l:Nat
def OpV.z (x:OpV):OpZ:=⟨x.k,x.s,x.fs,x.cs.map (·.1),x.live⟩
def OpV.cells (x:OpV):List Value:=[.int .i64 x.k,.string x.s,.slice x.A x.fs.length x.a,.slice x.C x.cs.length x.c,.slice x.L x.live.length x.l]
structure OpV.G (w:World) (x:OpV):Prop where
 k0:-9223372036854775808≤x.k
 k1:x.k≤9223372036854775807
 s:x.s.size≤maxLen
 fs:Rd w x.A (cellsF x.fs)
 fa:x.fs.length≤x.a
 cs:Rd w x.C (cellsC x.cs)
 ca:x.cs.length≤x.c
 cg:∀p∈x.cs,ChG w p
 live:Rd w x.L (cellsI x.live)
 la:x.live.length≤x.l
structure OpV.S (x:OpV):Prop where
 s:x.s.size≤281474976710656
 fs:∀f∈x.fs,f.s.size≤281474976710656
 fn:x.fs.length≤281474976710656
 cs:∀p∈x.cs,ChS p
 cn:x.cs.length * 112≤140737488355328
 ln:x.live.length≤281474976710656
section
variable {H:Type} {enc:TypeId×Value→H} {w:World} {base b0:Nat} {r:Reach} {spare:Nat→Bool} {held:Bool} {v:Value} {d:DataW H} {p:List MemPlace}
theorem elem_row {α:Type} (a0:α) {F:α→List Value} {k:Nat} (hk:∀a,(F a).length=k) (hk1:0<k) {t e:TypeId} (hu:Tryz.prog.underlying t=some (.slice e)) (hc:Tryz.prog.cellsOf e=k) (hb:1≤Tryz.prog.bytesOf e) {G Z:α→Prop}
 (E:∀{n:Nat} {cs:List Value} {x:DataW H×List MemPlace},DataW.trod enc Tryz.prog w base spare held n e cs=some x→∃a,cs=F a∧G a∧(SzT e x.1→Z a))
 {n:Nat} {cs:List Value} {x:DataW H×List MemPlace} (h:DataW.trod enc Tryz.prog w base spare held n t cs=some x):
 ∃(A:Option Addr) (c:Nat) (l:List α),cs=[.slice A l.length c]∧l.length≤c∧c≤maxLen∧Rd w A (l.flatMap F)∧(∀a∈l,G a)∧(SzT t x.1→(∀a∈l,Z a)∧l.length≤281474976710656∧l.length * Tryz.prog.bytesOf e≤140737488355328):=by
 rcases open_slice hu h with ⟨hcs,_⟩|⟨y,l,c,m,n,D,Pl,hcs,_,hl,hm,hmm,hx,hi⟩
 ·exact⟨none,0,[],hcs,Nat.le_refl _,Nat.zero_le _,Rd.nil _ _,by simp,fun _=>⟨by simp,Nat.zero_le _,by simp⟩⟩
 ·subst hcs
  have hlm:l≤m:=by rw[hmm];split <;> omega
  have hel:∀i,∃a:α,i<l→G a∧(SzT e (D i)→Z a)∧∀j,j<k→w.cell? ((y.add (i * k)).add j)=(F a)[j]?:=fun i=>by
   by_cases hlt:i<l
   ·obtain⟨cs',hc',ht⟩:=hi i (by omega)
    rw[hc] at hc'
    obtain⟨_,_,hat⟩:=World.cells?_some hc'
    obtain⟨a,rfl,hG,hZ⟩:=E ht
    exact⟨a,fun _=>⟨hG,hZ,fun j hj=>hat j hj⟩⟩
   ·exact⟨a0,fun h=>absurd h hlt⟩
  let B:=fun i=>Classical.choose (hel i)
  have hB:∀i,i<l→G (B i)∧(SzT e (D i)→Z (B i))∧∀j,j<k→w.cell? ((y.add (i * k)).add j)=(F (B i))[j]?:=fun i=>Classical.choose_spec (hel i)
  have hlen:((List.range l).map B).length=l:=by simp
  refine⟨some y,c,(List.range l).map B,by rw[hlen],by rw[hlen];exact hl,hm,fun _=>⟨y,rfl,fun j u hj=>?_⟩,?_,fun hz=>⟨?_,?_⟩⟩
  ·have hjl:j<l * k:=by
    have:=(List.getElem?_eq_some_iff.1 hj).1
    rw[flat_len hk,hlen] at this;exact this
   have hq:j / k<l:=Nat.div_lt_of_lt_mul (by rw[Nat.mul_comm];exact hjl)
   have hr:j % k<k:=Nat.mod_lt _ hk1
   have hj2:j=j / k * k+j % k:=by rw[Nat.mul_comm];exact(Nat.div_add_mod j k).symm
   rw[hj2,flat_get hk (l:=(List.range l).map B) (i:=j / k) (a:=B (j / k)) (by simp[hq]) _ hr] at hj
   rw[hj2,←Addr.add_add,(hB _ hq).2.2 _ hr,hj]
  ·intro b hb
   simp at hb
   obtain⟨i,hi,rfl⟩:=hb
   exact(hB i hi).1
  ·intro b hb
   simp at hb
   obtain⟨i,hi,rfl⟩:=hb
   refine(hB i hi).2.1 ?_
   have hx1:x.1=.slice ((List.range l).map D) ((List.range (m - l)).map fun j=>D (l+j)):=congrArg Prod.fst hx
   rw[hx1] at hz
   exact hz.elem hu (List.mem_map.2 ⟨i,by simp[hi],rfl⟩)
  ·rw[hlen]
   have hx1:x.1=.slice ((List.range l).map D) ((List.range (m - l)).map fun j=>D (l+j)):=congrArg Prod.fst hx
   rw[hx1] at hz
   have h2:=hz.lenB hu
   have h1:=hz.len hu hb
   have:=reachBytes_lt
   simp at h1 h2
   exact⟨reach48 h1,by omega⟩
theorem elem_op {n:Nat} {cs:List Value} {x:DataW H×List MemPlace} (h:DataW.trod enc Tryz.prog w base spare held n 31 cs=some x):
 ∃o:OpV,cs=o.cells∧o.G w∧(SzT 31 x.1→o.S):=by
 obtain⟨xs,m,_,rfl,hl,hxl,hf⟩:=DataW.trod_struct Tryz.underlying31 h
 have c5:Tryz.prog.cellsOf 31=5:=by kernel_rfl
 have k0:Tryz.prog.cellsOf 9=1:=by kernel_rfl
 have k1:Tryz.prog.cellsOf 3=1:=by kernel_rfl
 have k2:Tryz.prog.cellsOf 27=1:=by kernel_rfl
 have k3:Tryz.prog.cellsOf 28=1:=by kernel_rfl
 have k4:Tryz.prog.cellsOf 29=1:=by kernel_rfl
 rw[c5] at hl
 obtain⟨c0,c1,c2,c3,c4,rfl⟩:∃a b c d e,cs=[a,b,c,d,e]:=by
  match cs,hl with
  |[a,b,c,d,e],_=>exact⟨a,b,c,d,e,rfl⟩
 obtain⟨y0,y1,y2,y3,y4,rfl⟩:∃a b c d e,xs=[a,b,c,d,e]:=by
  match xs,hxl with
  |[a,b,c,d,e],_=>exact⟨a,b,c,d,e,rfl⟩
 have h0:DataW.trod enc Tryz.prog w base spare held m 3 (([c0,c1,c2,c3,c4].drop 0).take (Tryz.prog.cellsOf 3))=some y0:=hf 0 _ rfl
 rw[k1] at h0
 have h1:DataW.trod enc Tryz.prog w base spare held m 9 (([c0,c1,c2,c3,c4].drop 1).take (Tryz.prog.cellsOf 9))=some y1:=hf 1 _ rfl
 rw[k0] at h1
 have h2:DataW.trod enc Tryz.prog w base spare held m 27 (([c0,c1,c2,c3,c4].drop 2).take (Tryz.prog.cellsOf 27))=some y2:=hf 2 _ rfl
 rw[k2] at h2
 have h3:DataW.trod enc Tryz.prog w base spare held m 28 (([c0,c1,c2,c3,c4].drop 3).take (Tryz.prog.cellsOf 28))=some y3:=hf 3 _ rfl
 rw[k3] at h3
 have h4:DataW.trod enc Tryz.prog w base spare held m 29 (([c0,c1,c2,c3,c4].drop 4).take (Tryz.prog.cellsOf 29))=some y4:=hf 4 _ rfl
 rw[k4] at h4
 obtain⟨o,e0,_,w0⟩:=DataW.trod_int Tryz.underlying3 h0
 obtain⟨s,e1,e3,w1⟩:=DataW.trod_string Tryz.underlying9 h1
 obtain⟨A,a,fs,e2,fa,_,fr,_,fz⟩:=elem_row (⟨⟨#[]⟩,0,0⟩:Fd) (k:=3) (F:=fun f=>[.string f.s,.int .i64 f.k,.int .i64 f.l]) (fun _=>rfl) (by omega) Tryz.underlying27 (by kernel_rfl) (of_decide_eq_true (by kernel_rfl)) elem_fld h2
 obtain⟨C,c,ch,e4,ca,_,cr,cg,cz⟩:=elem_row (⟨⟨0,⟨#[]⟩,⟨⟨#[]⟩,0,0⟩,⟨0,0,⟨#[]⟩⟩,[]⟩,.slice none 0 0⟩:Ch×Value) (k:=9) (F:=fun x=>chL x.1 x.2) (G:=ChG w) (Z:=ChS) (fun _=>rfl) (by omega) Tryz.underlying28 (by kernel_rfl) (of_decide_eq_true (by kernel_rfl))
  (fun ht=>by
    obtain⟨c,Q,qc,e,h1,h2,h3,h4,h5,h6⟩:=elem_chg ht
    exact⟨(c,.slice Q c.q.length qc),e,⟨h1,h2,Q,qc,rfl,h3,h4,h5⟩,h6⟩) h3
 obtain⟨L,q,lc,e5,la,_,lr,lz⟩:=elem_ints h4
 simp at e0 e1 e2 e4 e5
 subst e0 e1 e2 e4 e5
 refine⟨⟨o,s,fs,A,a,ch,C,c,q,L,lc⟩,rfl,⟨(wf_i64 w0).1,(wf_i64 w0).2,w1,fr,fa,cr,ca,cg,lr,la⟩,fun hz=>?_⟩
 have z1:=hz.part Tryz.underlying31 (j:=1) rfl rfl rfl
 have z2:=hz.part Tryz.underlying31 (j:=2) rfl rfl rfl
 have z3:=hz.part Tryz.underlying31 (j:=3) rfl rfl rfl
 have z4:=hz.part Tryz.underlying31 (j:=4) rfl rfl rfl
 subst e3
 have hb:Tryz.prog.bytesOf 73=112:=by kernel_rfl
 exact⟨reach48 z1.str,(fz z2).1,(fz z2).2.1,(cz z3).1,by rw[←hb];exact(cz z3).2.2,Nat.le_trans (lz z4) (by decide)⟩
def cellsO (os:List OpV):List Value:=os.flatMap OpV.cells
theorem open_ops (hv:Value.okWide Tryz.prog w r b0 22 v) (h:DataW.Trod enc Tryz.prog w base spare held 22 v d p):
 ∃A c os,v=.slice A os.length c∧os.length≤c∧c≤maxLen∧Rd w A (cellsO os)∧(∀x∈os,x.G w)∧(SzT 22 d→(∀x∈os,x.S)∧os.length≤281474976710656):=
 open_row (⟨0,⟨#[]⟩,[],none,0,[],none,0,[],none,0⟩:OpV) (k:=5) (F:=OpV.cells) (fun _=>rfl) (by omega) Tryz.underlying22 (by kernel_rfl) (of_decide_eq_true (by kernel_rfl)) elem_op hv h
end
end
end Go.Proofs.YteembinfgbapgaaGreat
