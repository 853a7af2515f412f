/- Merged out of: Ud Va Vb. -/
import Derived.Test.YteembinfgbapgaaGreatC00
import Derived.Test.YteembinfgbapgaaGreatC38
import Derived.Sort.Walk0
set_option linter.unusedSimpArgs false
set_option linter.unusedVariables false
set_option maxRecDepth 100000
set_option maxHeartbeats 8000000
namespace Go.Proofs.YteembinfgbapgaaGreat
section
open Go.RowKit Go.Lib Go.Maps
structure Low (w W:World) (mp:Nat) (E:List En):Prop where
 b:Below w.heap.size w W
 u:∀g,g<w.heap.size→Unowned E mp g
theorem Low.next {w W W':World} {cp mp:Nat} {E E':List En} (h:Low w W mp E) (hf:CatFr cp mp E E' W W'):Low w W' mp E':=by
 have hz:=h.b.size
 exact⟨⟨hf.os.trans h.b.os,hf.tape.trans h.b.tape,hf.output.trans h.b.output,Q7 hz hf.size,fun g hg=>(hf.block g (by omega) (h.u g hg)).trans (h.b.block g hg)⟩,fun g hg=>hf.new g (by omega) (h.u g hg)⟩
theorem Low.below {w W W':World} {mp:Nat} {E:List En} (h:Low w W mp E) (hb:Below W.heap.size W W'):Low w W' mp E:=⟨h.b.trans (hb.mono h.b.size),h.u⟩
def ASt (w:World) (cp mp:Nat) (D:List Ty) (W:World):Prop:=∃E es clock,E.map (·.y)=D∧CatIs 89 80 W cp mp E es clock∧Low w W mp E∧CatOk D
def Kp (W W':World):Prop:=∀A cs,Rd W A cs→Solid cs→Rd W' A cs
theorem Kp.of {W W':World} (h:Below W.heap.size W W'):Kp W W':=fun _ _ hA _=>hA.below h
theorem Kp.trans {W W' W'':World} (h:Kp W W') (h':Kp W' W''):Kp W W'':=fun A cs hA hs=>h' A cs (h A cs hA hs) hs
theorem ASt.below {w W W':World} {cp mp:Nat} {D:List Ty} (h:ASt w cp mp D W) (hb:Below W.heap.size W W'):ASt w cp mp D W':=by
 obtain⟨E,es,k,h1,h2,h3,h4⟩:=h
 exact⟨E,es,k,h1,h2.below hb,h3.below hb,h4⟩
theorem ASt.b {w W:World} {cp mp:Nat} {D:List Ty} (h:ASt w cp mp D W):Below w.heap.size w W:=by
 obtain⟨E,es,k,h1,h2,h3,h4⟩:=h
 exact h3.b
theorem ASt.to {w W W':World} {cp mp:Nat} {E:List En} {es:List MapEntry} {clock:Nat} {D:List Ty} (hc:CatIs 89 80 W cp mp E es clock) (hl:Low w W mp E) (hk:CatOk D) (h:CatTo cp mp E W D W'):ASt w cp mp D W'∧Kp W W':=by
 obtain⟨E',es',k',h1,h2,h3⟩:=h
 exact⟨⟨E',es',k',h1,h2,hl.next h3,hk⟩,fun A cs hA hs=>h3.solid hc hA hs⟩
theorem New_a (w W:World) (hb:Below w.heap.size w W):Calls Tryz.prog 12 #[] W fun e w'=>∃cp mp,e=.returned (.pointer (some ⟨cp,0,none⟩))∧ASt w cp mp [] w'∧Below W.heap.size W w':=by
 refine(New_cat W).mono ?_
 rintro e w' ⟨rfl,hc,hb2⟩
 have hz:=hb.size
 exact⟨_,_,rfl,⟨[],[],0,rfl,hc,⟨hb.trans (hb2.mono hz),fun g hg=>⟨by omega,fun d hd=>by cases hd⟩⟩,CatOk.nil⟩,hb2⟩
theorem Define_a {w W:World} {cp mp:Nat} {D:List Ty} (h:ASt w cp mp D W) {nm:ByteArray} (hn:nm.size≤maxLen) (A:Option Addr) (cA m:Nat) (fs:List Fd) (hm:fs.length=m) (hl:m≤9223372036854775807) (hcA:m≤cA) (hA:Rd W A (cellsF fs)) (hs:NmS fs) (q:Int) (hq:defE D nm fs=q) (D':List Ty) (hD:defD D nm fs=D'):
 Calls Tryz.prog 28 #[.pointer (some ⟨cp,0,none⟩),.string nm,.slice A m cA] W fun e w'=>e=.returned (.int .i64 q)∧ASt w cp mp D' w'∧Kp W w':=by
 obtain⟨E,es,k,rfl,h2,h3,h4⟩:=h
 refine(Define_m h2 hn A cA m fs hm hl hcA hA q hq D' hD).mono ?_
 rintro e w' ⟨rfl,hc⟩
 exact⟨rfl,ASt.to h2 h3 (by rw[←hD];exact h4.def hs) hc⟩
theorem CatOk.ch {D:List Ty} (h:CatOk D) (nm:ByteArray) {cs:List Ch} (hc:∀c∈cs,c.g.s.size≤281474976710656∧0≤c.d.b∧c.d.b<18446744073709551616):CatOk (chD D nm cs):=by
 have:=h.do (o:=⟨1,nm,[],cs,[]⟩) ⟨(fun f hf=>by cases hf),hc⟩
 simpa[doD] using this
theorem CatOk.re {D:List Ty} (h:CatOk D) (nm:ByteArray) (q:List Int):CatOk (reD D nm q):=by
 have:=h.do (o:=⟨2,nm,[],[],q⟩) ⟨(fun f hf=>by cases hf),(fun c hc=>by cases hc)⟩
 simpa[doD] using this
theorem Change_a {w W:World} {cp mp:Nat} {D:List Ty} (h:ASt w cp mp D W) {nm:ByteArray} (hn:nm.size≤maxLen) (K:Option Addr) (cK nc:Nat) (cs:List (Ch×Value)) (hnc:cs.length=nc) (hk:nc≤9223372036854775807) (hw:∀p∈cs,ChW p) (hK:Rd W K (cellsC cs)) (ho:∀p∈cs,ChO W p) (q:Int) (hq:chE D nm (cs.map (·.1))=q) (v:Nat) (hv:chV D nm (cs.map (·.1))=v) (D':List Ty) (hD:chD D nm (cs.map (·.1))=D'):
 Calls Tryz.prog 29 #[.pointer (some ⟨cp,0,none⟩),.string nm,.slice K nc cK] W fun e w'=>e=.returned (.tuple #[.int .i64 (v:Nat),.int .i64 q])∧ASt w cp mp D' w'∧Kp W w':=by
 obtain⟨E,es,k,rfl,h2,h3,h4⟩:=h
 refine(Change_m h2 hn K cK nc cs hnc hk hw hK ho h4 q hq v hv D' hD).mono ?_
 rintro e w' ⟨rfl,hc⟩
 have hcc:∀c∈cs.map (·.1),c.g.s.size≤281474976710656∧0≤c.d.b∧c.d.b<18446744073709551616:=fun c hc=>by
  obtain⟨p,hp,rfl⟩:=X5.1 hc
  exact⟨(hw p hp).2.2.2,(hw p hp).2.1⟩
 exact⟨rfl,ASt.to h2 h3 (by rw[←hD];exact h4.ch nm hcc) hc⟩
theorem Retire_a {w W:World} {cp mp:Nat} {D:List Ty} (h:ASt w cp mp D W) {nm:ByteArray} (hn:nm.size≤maxLen) (L:Option Addr) (cL nl:Nat) (q:List Int) (hnl:q.length=nl) (hl:nl≤9223372036854775807) (hL:Rd W L (cellsI q)) (qe:Int) (hqe:reE D nm q=qe) (v:Nat) (hv:reV D nm q=v) (D':List Ty) (hD:reD D nm q=D'):
 Calls Tryz.prog 20 #[.pointer (some ⟨cp,0,none⟩),.string nm,.slice L nl cL] W fun e w'=>e=.returned (.tuple #[.int .i64 (v:Nat),.int .i64 qe])∧ASt w cp mp D' w'∧Kp W w':=by
 obtain⟨E,es,k,rfl,h2,h3,h4⟩:=h
 refine(Retire_m h2 hn L cL nl q hnl hl hL h4 qe hqe v hv D' hD).mono ?_
 rintro e w' ⟨rfl,hc⟩
 exact⟨rfl,ASt.to h2 h3 (by rw[←hD];exact h4.re nm q) hc⟩
theorem opOk {W:World} {x:OpV} (hG:x.G W) (hS:x.S):OpOk x.z:=by
 refine⟨fun f hf=>hS.fs f hf,fun c hc=>?_⟩
 obtain⟨p,hp,rfl⟩:=X5.1 hc
 exact⟨(hS.cs p hp).2.1,(hG.cg p hp).2.1⟩
theorem Versions_a {w W:World} {cp mp:Nat} {D:List Ty} (h:ASt w cp mp D W) {nm:ByteArray} (hn:nm.size≤maxLen) (o t:Nat) (q:Int) (ho:verO D nm=o) (ht:verT D nm=t) (hq:verE D nm=q):
 Calls Tryz.prog 15 #[.pointer (some ⟨cp,0,none⟩),.string nm] W fun e w'=>e=.returned (.tuple #[.int .i64 (o:Nat),.int .i64 (t:Nat),.int .i64 q])∧Below W.heap.size W w':=by
 obtain⟨E,es,k,rfl,h2,h3,h4⟩:=h
 exact Versions_m h2 hn h4 _ rfl o t q ho ht hq
theorem Upgrade_a {w W:World} {cp mp:Nat} {D:List Ty} (h:ASt w cp mp D W) {nm:ByteArray} (hn:nm.size≤maxLen) (v:Int) (b:List UInt8) (nb:Nat) (hb0:b.length=nb) (hnb:nb≤9223372036854775807) (Ab:Option Addr) (cb:Nat) (hcb:nb≤cb) (hb:Rd W Ab (bytesV b)) (q:Int) (hq:upgE D nm v b=q) (r:List UInt8) (hr:upgV D nm v b=r) (z:Nat) (hz:r.length=z):
 Calls Tryz.prog 18 #[.pointer (some ⟨cp,0,none⟩),.string nm,.int .i64 v,.slice Ab nb cb] W fun e w'=>∃B c',e=.returned (.tuple #[.slice B z c',.int .i64 q])∧z≤c'∧Rd w' B (bytesV r)∧Below W.heap.size W w':=by
 obtain⟨E,es,k,rfl,h2,h3,h4⟩:=h
 exact Upgrade_m h2 hn h4 _ rfl v b nb hb0 hnb Ab cb hcb hb q hq r hr z hz
def nmA:ByteArray:=⟨#[97]⟩
def fsX:List Fd:=[⟨⟨#[120]⟩,1,0⟩]
def chX:Ch:=⟨4,⟨#[120]⟩,⟨⟨#[]⟩,2,0⟩,⟨0,0,⟨#[]⟩⟩,[]⟩
def DA:List Ty:=defD [] nmA fsX
def DB:List Ty:=chD DA nmA [chX]
def DC:List Ty:=reD DB nmA []
def bX:List UInt8:=[255,0,0,0,0,0,0,0]
theorem aa1:defE [] nmA fsX=0:=by decide +kernel
theorem aa2:chE DA nmA [chX]=0:=by decide +kernel
theorem aa3:chV DA nmA [chX]=2:=by decide +kernel
theorem aa4:upgE DB nmA 1 bX=0:=by decide +kernel
theorem aa5:upgV DB nmA 1 bX=bX:=by decide +kernel
theorem aa6:reE DB nmA [1]=93:=by decide +kernel
theorem aa7:reV DB nmA [1]=0:=by decide +kernel
theorem aa8:reD DB nmA [1]=DB:=by rw[reD,if_neg (by rw[aa6];decide)]
theorem aa9:reE DB nmA []=0:=by decide +kernel
theorem aa10:reV DB nmA []=1:=by decide +kernel
theorem aa11:verO DC nmA=2:=by decide +kernel
theorem aa12:verT DC nmA=2:=by decide +kernel
theorem aa13:verE DC nmA=0:=by decide +kernel
theorem nmA_max:nmA.size≤maxLen:=by decide
theorem alive_calls9 (w:World):Calls Tryz.prog 11 #[] w fun e w'=>e=.returned (.bool true)∧Below w.heap.size w w':=by
 go_enter Tryz.func11,Tryz.ntmps11
 go_upto_region 4 with (go_at_call 12;refine(New_a w _ (Jy _ _)).mono ?_;rintro e w1 ⟨cp,mp,rfl,S1,hb1⟩)
 have R1:Rd (w1.alloc (.cells #[.string ⟨#[120]⟩,.int .i64 1,.int .i64 0] 68)) (some ⟨w1.heap.size,0,none⟩) (cellsF fsX):=rd_new w1 (cellsF fsX) 68
 go_upto_region 5 with (go_at_call 28;refine(Define_a (S1.below (below_new _)) nmA_max _ 1 1 fsX rfl (by omega) (by omega) R1 (fun f hf=>by simp[fsX] at hf;subst hf;decide) 0 aa1 DA rfl).mono ?_;rintro e w2 ⟨rfl,S2,K2⟩)
 have R2:Rd (w2.alloc (.cells #[.int .i64 4,.string ⟨#[120]⟩,.string ⟨#[]⟩,.int .i64 2,.int .i64 0,.int .i64 0,.int .u64 0,.string ⟨#[]⟩,.slice none 0 0] 76)) (some ⟨w2.heap.size,0,none⟩) (cellsC [(chX,.slice none 0 0)]):=rd_new w2 (chL chX (.slice none 0 0)) 76
 have cw:∀p∈[(chX,Value.slice none 0 0)],ChW p:=fun p hp=>by simp at hp;subst hp;exact⟨⟨by decide,by decide⟩,⟨by decide,by decide⟩,by decide,by decide⟩
 have co:∀W,∀p∈[(chX,Value.slice none 0 0)],ChO W p:=fun W p hp=>by simp at hp;subst hp;exact⟨none,0,rfl,by decide,by decide,Rd.nil _ _⟩
 clear R1
 go_upto_region 6 with (go_at_call 29;refine(Change_a (S2.below (below_new _)) nmA_max _ 1 1 [(chX,.slice none 0 0)] rfl (by omega) cw R2 (co _) 0 aa2 2 aa3 DB rfl).mono ?_;rintro e w3 ⟨rfl,S3,K3⟩)
 have R3:Rd (w3.alloc (.cells #[.int .u8 255,.int .u8 0,.int .u8 0,.int .u8 0,.int .u8 0,.int .u8 0,.int .u8 0,.int .u8 0] 5)) (some ⟨w3.heap.size,0,none⟩) (bytesV bX):=rd_new w3 (bytesV bX) 5
 clear R2 cw co
 go_upto_region 7 with (go_at_call 18;refine(Upgrade_a (S3.below (below_new _)) nmA_max 1 bX 8 rfl (by omega) _ 8 (J9 _) R3 0 aa4 bX aa5 8 rfl).mono ?_;rintro e w4 ⟨B,cB,rfl,hcB,R4,hb4⟩;have S4:=(S3.below (below_new _)).below hb4)
 have R5:Rd (w4.alloc (.cells #[.int .i64 1] 3)) (some ⟨w4.heap.size,0,none⟩) (cellsI [1]):=rd_new w4 (cellsI [1]) 3
 clear R3 hb4
 go_upto_region 8 with (go_at_call 20;refine(Retire_a (S4.below (below_new _)) nmA_max _ 1 1 [1] rfl (by omega) R5 93 aa6 0 aa7 DB aa8).mono ?_;rintro e w5 ⟨rfl,S5,K5⟩;replace R4:=K5 _ _ (R4.below (below_new _)) (.inr (.inr ⟨_,_,_,_,_,rfl⟩)))
 clear R5
 go_upto_region 9 with (go_at_call 20;refine(Retire_a S5 nmA_max none 0 0 [] rfl (by omega) (Rd.nil _ _) 0 aa9 1 aa10 DC rfl).mono ?_;rintro e w6 ⟨rfl,S6,K6⟩;replace R4:=K6 _ _ R4 (.inr (.inr ⟨_,_,_,_,_,rfl⟩)))
 go_upto_region 10 with (go_at_call 15;refine(Versions_a S6 nmA_max 2 2 0 aa11 aa12 aa13).mono ?_;rintro e w7 ⟨rfl,hb7⟩;replace R4:=R4.below hb7)
 have hcv:(convert 44 9 (.slice B 8 cB)).run Tryz.prog w7=.ok (.string (strL bX)) w7:=conv_at R4 8 cB rfl
 have hse:((strL bX).toList == [255,0,0,0,0,0,0,0])=true:=by decide +kernel
 go_wp2
 go_ret
 exact⟨rfl,(S6.below hb7).b⟩
def nmLt (a b:ByteArray):Bool:=Op.bytesLess a.toList b.toList
theorem nmLt_iff {a b:ByteArray}:nmLt a b=true↔a.data.toList<b.data.toList:=by
 rw[nmLt,bytesLess_eq,Go.ByteArray.toList_eq,Go.ByteArray.toList_eq,decide_eq_true_eq]
theorem nmLt_not {a b:ByteArray}:nmLt a b=false↔b.data.toList≤a.data.toList:=by
 rw[←List.not_lt,←nmLt_iff,Bool.not_eq_true]
theorem nmLt_trans {a b c:ByteArray} (h:nmLt a b=true) (h2:nmLt b c=true):nmLt a c=true:=nmLt_iff.2 (List.lt_trans (nmLt_iff.1 h) (nmLt_iff.1 h2))
theorem nmLt_irrefl (a:ByteArray):nmLt a a=false:=by
 cases h:nmLt a a with
 |false=>rfl
 |true=>exact absurd (nmLt_iff.1 h) (List.lt_irrefl _)
theorem nmLt_eq {a b:ByteArray} (h:nmLt a b=false) (h2:nmLt b a=false):a=b:=by
 have:=List.le_antisymm (nmLt_not.1 h2) (nmLt_not.1 h)
 cases a;cases b
 simp at this
 rw[this]
def Ranked (L:List Ty):Prop:=L.Pairwise fun a b=>nmLt a.s b.s=true
def insT {α:Type} (key:α→ByteArray) (x:α):List α→List α
 |[]=>[x]
 |y :: r=>if nmLt (key x) (key y)=true then x :: y :: r else y :: insT key x r
def insL (L:List Ty) (t:Ty):List Ty:=insT (·.s) t L
theorem insT_perm {α:Type} (key:α→ByteArray) (x:α) (l:List α):(insT key x l).Perm (x :: l):=by
 induction l with
 |nil=>exact List.Perm.refl _
 |cons y r ih=>
  unfold insT
  split
  ·exact List.Perm.refl _
  ·exact(ih.cons y).trans (List.Perm.swap x y r)
theorem insL_mem {L:List Ty} {t u:Ty} (h:u∈insL L t):u=t∨u∈L:=by
 have:=(insT_perm (fun x:Ty=>x.s) t L).subset h
 simpa using this
theorem insL_ranked {L:List Ty} (h:Ranked L) {t:Ty} (hn:∀u∈L,u.s≠t.s):Ranked (insL L t):=by
 induction L with
 |nil=>exact List.pairwise_singleton _ _
 |cons y r ih=>
  obtain⟨h1,h2⟩:=List.pairwise_cons.1 h
  unfold insL insT
  split
  ·rename_i hlt
   refine List.pairwise_cons.2 ⟨fun u hu=>?_,h⟩
   rcases List.mem_cons.1 hu with rfl|hu
   ·exact hlt
   ·exact nmLt_trans hlt (h1 u hu)
  ·rename_i hlt
   have hyt:nmLt y.s t.s=true:=by
    cases hx:nmLt y.s t.s with
    |true=>rfl
    |false=>exact absurd (nmLt_eq hx (by simpa using hlt)) (hn y List.mem_cons_self)
   refine List.pairwise_cons.2 ⟨fun u hu=>?_,ih h2 (fun u hu=>hn u (List.mem_cons_of_mem _ hu))⟩
   rcases insL_mem hu with rfl|hu
   ·exact hyt
   ·exact h1 u hu
theorem insT_map {α β:Type} (f:α→β) (key:β→ByteArray) (x:α) (l:List α):(insT (fun a=>key (f a)) x l).map f=insT key (f x) (l.map f):=by
 induction l with
 |nil=>rfl
 |cons y r ih=>
  simp only[insT,List.map_cons]
  split
  ·rfl
  ·rw[List.map_cons,ih]
theorem Ranked.put {L:List Ty} (h:Ranked L) (y:Ty):Ranked (putY L y):=by
 have h1:(L.map (·.s)).Pairwise fun a b=>nmLt a b=true:=List.pairwise_map.2 h
 rw[←putY_names L y] at h1
 exact List.pairwise_map.1 h1
theorem ranked_names {L:List Ty} (h:Ranked L) {ns:List ByteArray} (hn:ns.Pairwise fun a b=>nmLt b a=false) (hp:ns.Perm (L.map (·.s))):ns=L.map (·.s):=by
 refine List.Perm.eq_of_pairwise (le:=fun a b=>nmLt b a=false) (fun a b _ _ h1 h2=>nmLt_eq h2 h1) hn ?_ hp
 refine List.pairwise_map.2 (h.imp fun {a b} hab=>?_)
 cases hx:nmLt b.s a.s with
 |false=>rfl
 |true=>have:=nmLt_trans hab hx;rw[nmLt_irrefl] at this;cases this
def fndZ (L:List Ty) (nm:ByteArray):Int:=match L.findIdx? (fun t=>decide (t.s=nm)) with
 |some i=>i
 |none=>-1
theorem fndZ_some {L:List Ty} {nm:ByteArray} {t:Ty} (h:findY L nm=some t):∃i:Nat,fndZ L nm=i∧L[i]?=some t:=by
 unfold findY at h
 obtain⟨i,hi,ht⟩:∃i,L.findIdx? (fun t=>decide (t.s=nm))=some i∧L[i]?=some t:=by
  induction L with
  |nil=>cases h
  |cons a r ih=>
   rw[List.find?_cons] at h
   rw[List.findIdx?_cons]
   split at h
   ·rename_i ha
    exact⟨0,by rw[if_pos ha],by simpa using h⟩
   ·rename_i ha
    obtain⟨i,h1,h2⟩:=ih h
    exact⟨i+1,by rw[if_neg (by rw[ha];decide),h1];rfl,by simpa using h2⟩
 exact⟨i,by rw[fndZ,hi],ht⟩
theorem fndZ_none {L:List Ty} {nm:ByteArray} (h:findY L nm=none):fndZ L nm=-1:=by
 have:L.findIdx? (fun t=>decide (t.s=nm))=none:=by
  rw[List.findIdx?_eq_none_iff]
  intro x hx
  simpa using findY_none h x hx
 rw[fndZ,this]
theorem fndZ_at {L:List Ty} {nm:ByteArray} {i:Nat} {t:Ty} (ht:L[i]?=some t) (hs:t.s=nm) (hb:∀(j:Nat) (u:Ty),j<i→L[j]?=some u→u.s≠nm):fndZ L nm=i:=by
 have hil:=(J6.1 ht).1
 have:L.findIdx? (fun t=>decide (t.s=nm))=some i:=by
  rw[List.findIdx?_eq_some_iff_getElem]
  refine⟨hil,?_,fun j hj=>?_⟩
  ·rw[(J6.1 ht).2];simp[hs]
  ·have:=hb j _ hj (J4 (by omega))
   simpa using this
 rw[fndZ,this]
structure FV where
 l:List Fd
 A:Option Addr
 a:Nat
def cellsFV (xs:List FV):List Value:=xs.map fun x=>.slice x.A x.l.length x.a
structure TyV where
 y:Ty
 F:Option Addr
 f:Nat
 T:Option Addr
 t:Nat
 fv:List FV
 tv:List TabV
def TyV.cells (x:TyV):List Value:=[.string x.y.s,.int .i64 (x.y.old:Nat),.slice x.F x.fv.length x.f,.slice x.T x.tv.length x.t]
def cellsTy (xs:List TyV):List Value:=xs.flatMap TyV.cells
def TabV.Rds (W:World) (v:TabV):Prop:=Rd W v.A (cellsF v.t.o)∧Rd W v.B (cellsF v.t.n)∧Rd W v.C (cellsM v.t.m)
structure TyV.Is (Q:Nat→Prop) (W:World) (x:TyV):Prop where
 rF:RdP Q W x.F (cellsFV x.fv)
 rT:RdP Q W x.T (cellsT x.tv)
 fl:∀v∈x.fv,Rd W v.A (cellsF v.l)
 tb:∀v∈x.tv,v.Rds W
 eF:x.fv.map (·.l)=x.y.ts.map (·.n)
 eT:x.tv.map (·.t)=x.y.ts.tail
 cF:x.fv.length≤x.f
 cT:x.tv=[]→x.T=none∧x.t=0
theorem TabV.Rds.below {W W':World} {v:TabV} (h:v.Rds W) (hb:Below W.heap.size W W'):v.Rds W':=⟨h.1.below hb,h.2.1.below hb,h.2.2.below hb⟩
theorem TyV.Is.below {Q:Nat→Prop} {W W':World} {x:TyV} (h:x.Is Q W) (hb:Below W.heap.size W W'):x.Is Q W':=⟨h.rF.up hb,h.rT.up hb,fun v hv=>(h.fl v hv).below hb,fun v hv=>(h.tb v hv).below hb,h.eF,h.eT,h.cF,h.cT⟩
theorem TyV.Is.mono {Q Q':Nat→Prop} {W:World} {x:TyV} (h:x.Is Q W) (hq:∀g,Q g→Q' g):x.Is Q' W:=⟨h.rF.mono hq,h.rT.mono hq,h.fl,h.tb,h.eF,h.eT,h.cF,h.cT⟩
theorem TyV.Is.cat {ST CT:TypeId} {W W':World} {cp mp:Nat} {E E':List En} {es:List MapEntry} {clock:Nat} (hc:CatIs ST CT W cp mp E es clock) (hf:CatFr cp mp E E' W W') {x:TyV} (h:x.Is (Unowned E mp) W):x.Is (Unowned E' mp) W':=
 ⟨hf.rdP h.rF,hf.rdP h.rT,fun v hv=>hf.solid hc (h.fl v hv) (Solid.flds _),fun v hv=>⟨hf.solid hc (h.tb v hv).1 (Solid.flds _),hf.solid hc (h.tb v hv).2.1 (Solid.flds _),hf.solid hc (h.tb v hv).2.2 (Solid.moves _)⟩,h.eF,h.eT,h.cF,h.cT⟩
structure RefIs (Q:Nat→Prop) (W:World) (A:Option Addr) (c:Nat) (X:List TyV):Prop where
 row:Rd W A (cellsTy X)
 ty:∀x∈X,x.Is Q W
 cap:X.length≤c
 non:X=[]→A=none∧c=0
theorem RefIs.below {Q:Nat→Prop} {W W':World} {A:Option Addr} {c:Nat} {X:List TyV} (h:RefIs Q W A c X) (hb:Below W.heap.size W W'):RefIs Q W' A c X:=⟨h.row.below hb,fun x hx=>(h.ty x hx).below hb,h.cap,h.non⟩
theorem RefIs.mono {Q Q':Nat→Prop} {W:World} {A:Option Addr} {c:Nat} {X:List TyV} (h:RefIs Q W A c X) (hq:∀g,Q g→Q' g):RefIs Q' W A c X:=⟨h.row,fun x hx=>(h.ty x hx).mono hq,h.cap,h.non⟩
theorem Solid.types (X:List TyV):Solid (cellsTy X):=by
 cases X with
 |nil=>exact .inl rfl
 |cons f r=>exact .inr (.inl ⟨f.y.s,_,rfl⟩)
theorem RefIs.cat {ST CT:TypeId} {W W':World} {cp mp:Nat} {E E':List En} {es:List MapEntry} {clock:Nat} (hc:CatIs ST CT W cp mp E es clock) (hf:CatFr cp mp E E' W W') {A:Option Addr} {c:Nat} {X:List TyV} (h:RefIs (Unowned E mp) W A c X):RefIs (Unowned E' mp) W' A c X:=
 ⟨hf.solid hc h.row (Solid.types X),fun x hx=>(h.ty x hx).cat hc hf,h.cap,h.non⟩
theorem cellsTy_length (xs:List TyV):(cellsTy xs).length=4 * xs.length:=by
 induction xs with
 |nil=>rfl
 |cons x r ih=>simp[cellsTy,TyV.cells] at ih ⊢;omega
theorem Rd.ty {w:World} {A:Option Addr} {X:List TyV} (h:Rd w A (cellsTy X)) {j:Nat} {x:TyV} (hx:X[j]?=some x):∃ad,A=some ad∧w.cell? (ad.add (j * 4))=some (.string x.y.s)∧w.cell? ⟨(ad.add (j * 4)).block,(ad.add (j * 4)).off+(0+1),none⟩=some (.int .i64 (x.y.old:Nat))∧w.cell? ⟨(ad.add (j * 4)).block,(ad.add (j * 4)).off+(1+1),none⟩=some (.slice x.F x.fv.length x.f)∧
 w.cell? ⟨(ad.add (j * 4)).block,(ad.add (j * 4)).off+(2+1),none⟩=some (.slice x.T x.tv.length x.t):=by
 have hg:=fun r (hr:r<4)=>flat_get (F:=TyV.cells) (k:=4) (fun _=>rfl) hx r hr
 obtain⟨ad,e,hc⟩:=h (by intro e;have:=hg 0 (by omega);unfold cellsTy at e;rw[e] at this;simp[TyV.cells] at this)
 have h0:=hc (j * 4) _ (hg 0 (by omega))
 have h1:=hc (j * 4+1) _ (hg 1 (by omega))
 have h2:=hc (j * 4+2) _ (hg 2 (by omega))
 have h3:=hc (j * 4+3) _ (hg 3 (by omega))
 rw[add_part _ _ 0] at h1
 rw[add_part _ _ 1] at h2
 rw[add_part _ _ 2] at h3
 exact⟨ad,e,h0,h1,h2,h3⟩
theorem OBox.f4 {w:World} {b:Nat} {x0 x1 x2 x3:Value} {T:TypeId} (h:OBox w b [x0,x1,x2,x3] T):w.cell? ⟨b,0,none⟩=some x0∧w.cell? ⟨b,1,none⟩=some x1∧w.cell? ⟨b,2,none⟩=some x2∧w.cell? ⟨b,3,none⟩=some x3:=⟨h.cell rfl,h.cell rfl,h.cell rfl,h.cell rfl⟩
theorem TyV.Is.len {Q:Nat→Prop} {W:World} {x:TyV} (h:x.Is Q W):x.fv.length=x.y.ts.length∧x.tv.length=x.y.ts.length - 1:=by
 have h1:=congrArg List.length h.eF
 have h2:=congrArg List.length h.eT
 rw[Kz,Kz] at h1
 rw[Kz,List.length_tail] at h2
 exact⟨h1,h2⟩
theorem infoTy:(Tryz.prog.info? 58).map (fun i=>(i.zero,i.size,i.bytes))=some (some (.agg #[.string ⟨#[]⟩,.int .i64 0,.slice none 0 0,.slice none 0 0]),4,72):=by kernel_rfl
theorem rFind9_m (A:Option Addr) (c n:Nat) (X:List TyV) (hn:X.length=n) (hl:n≤9223372036854775807) (nm:ByteArray) (q:Int) (hq:fndZ (X.map (·.y)) nm=q) (w:World) (hA:Rd w A (cellsTy X)):
 Calls Tryz.prog 42 #[.slice A n c,.string nm] w fun e w'=>e=.returned (.int .i64 q)∧Below w.heap.size w w':=by
 have HN:=J0 hn;have HQ:=J0 hq
 clear hn hq
 go_enter Tryz.func42,Tryz.ntmps42
 go_wp2
 go_loopw [5] (fun i wr=>∃k:Nat,k≤n∧i=.int .i64 k∧Below w.heap.size w wr∧Hid (∀(j:Nat) (u:TyV),j<k→X[j]?=some u→u.y.s≠nm)) (fun i _=>n - (intOf i).toNat)
 case atStart=>exact⟨0,by omega,rfl,Jy _ _,J0 (fun j u h=>by omega)⟩
 case round=>
  obtain⟨k,hk,rfl,HB,hall⟩:=hrel
  have hAr:=hA.below HB
  by_cases hlt:k<n
  ·obtain⟨x,hx⟩:∃x,X[k]?=some x:=⟨_,J4 (by rw[HN.out];exact hlt)⟩
   obtain⟨ad,rfl,c0,_,_,_⟩:=hAr.ty hx
   have HX:=J0 hx
   have h0:(0:Int)≤(k:Int):=by omega
   have h1:(k:Int)<(n:Int):=by omega
   clear hAr hx
   by_cases he:x.y.s=nm
   ·have ht:(x.y.s.toList == nm.toList)=true:=by rw[name_beq];exact decide_eq_true he
    have hz:q=(k:Int):=by
     rw[←HQ.out]
     exact fndZ_at (t:=x.y) (by rw[Kv,HX.out];rfl) he (fun j u hj hu=>by
      rw[Kv] at hu
      cases hv:X[j]? with
      |none=>rw[hv] at hu;cases hu
      |some v=>rw[hv] at hu;cases hu;exact hall.out j v hj hv)
    clear he
    go_wp2
    go_ret
    exact⟨by rw[hz];rfl,HB⟩
   ·have ht:(x.y.s.toList == nm.toList)=false:=by rw[name_beq];exact decide_eq_false he
    have hall2:Hid (∀(j:Nat) (u:TyV),j<k+1→X[j]?=some u→u.y.s≠nm):=J0 (fun j u hj hu=>by
     rcases(by omega:j<k∨j=k) with h|rfl
     ·exact hall.out j u h hu
     ·rw[HX.out] at hu;cases hu;exact he)
    clear he hall
    go_wp2
    go_roundw
    case rel=>exact⟨k+1,by omega,by go_num,HB,hall2⟩
    case measure=>simp[intOf];omega
  ·obtain rfl:k=n:=by omega
   have hz:q=-1:=by
    rw[←HQ.out]
    cases hf:findY (X.map (·.y)) nm with
    |none=>exact fndZ_none hf
    |some t=>
     obtain⟨ht,hs⟩:=findY_mem hf
     obtain⟨u,hu,rfl⟩:=X5.1 ht
     obtain⟨j,hj⟩:=Qq.1 hu
     have hjl:=(J6.1 hj).1
     exact absurd hs (hall.out j u (by rw[←HN.out];exact hjl) hj)
   clear hall
   go_wp2
   go_ret
   exact⟨by rw[hz];rfl,HB⟩
theorem rNewest_m (s:ByteArray) (old nf:Nat) (F:Option Addr) (f:Nat) (T:Option Addr) (nt t:Nat) (r:Nat) (hr:old+nf=r+1) (hs:r≤1000) (w:World):
 Calls Tryz.prog 24 #[.agg #[.string s,.int .i64 (old:Nat),.slice F nf f,.slice T nt t]] w fun e w'=>e=.returned (.int .i64 (r:Nat))∧Below w.heap.size w w':=by
 have hw1:IntKind.i64.wrap ((old:Int)+(nf:Int))=(r:Int)+1:=(Xq _ (by omega)).trans (by omega)
 have hw2:IntKind.i64.wrap (r:Int)=(r:Int):=Xq _ (by omega)
 have nb:=below_new (w:=w) (.cells #[.string s,.int .i64 (old:Nat),.slice F nf f,.slice T nt t] 58)
 have P:=OBox.new w [.string s,.int .i64 (old:Nat),.slice F nf f,.slice T nt t] 58
 have HR:=J0 hr
 clear hr
 go_enter Tryz.func24,Tryz.ntmps24
 go_upto_region 1 with fail
 generalize w.alloc (.cells #[.string s,.int .i64 (old:Nat),.slice F nf f,.slice T nt t] 58)=W1 at *
 obtain⟨p0,p1,p2,p3⟩:=P.f4
 go_wp2
 go_ret
 exact⟨by rfl,nb⟩
def preL (X:List TyV) (x:TyV) (k:Nat):List TyV:=if (X.take k).any (fun y=>nmLt x.y.s y.y.s)=true then insT (·.y.s) x (X.take k) else X.take k
theorem insT_snoc {α:Type} (key:α→ByteArray) (x:α) (l:List α) (y:α):insT key x (l++[y])=if l.any (fun z=>nmLt (key x) (key z))=true then insT key x l++[y] else if nmLt (key x) (key y)=true then l++[x,y] else l++[y,x]:=by
 induction l with
 |nil=>
  simp only[List.nil_append,insT,List.any_nil,Bool.false_eq_true,if_false]
 |cons z r ih=>
  simp only[List.cons_append,insT,List.any_cons]
  cases hz:nmLt (key x) (key z) with
  |true=>simp
  |false=>
   simp only[Bool.false_eq_true,if_false,Bool.false_or]
   rw[ih]
   repeat' split <;> simp_all
theorem any_succ {X:List TyV} {k:Nat} {y:TyV} (h:X[k]?=some y) (x:TyV):(X.take (k+1)).any (fun y=>nmLt x.y.s y.y.s)=((X.take k).any (fun y=>nmLt x.y.s y.y.s) || nmLt x.y.s y.y.s):=by
 rw[Vq,h]
 simp
theorem preL_done {X:List TyV} {k:Nat} {y:TyV} (h:X[k]?=some y) {x:TyV} (hd:(X.take k).any (fun y=>nmLt x.y.s y.y.s)=true):preL X x (k+1)=preL X x k++[y]:=by
 rw[preL,any_succ h,hd,Bool.true_or,if_pos rfl,preL,if_pos hd,Vq,h]
 show insT _ x (X.take k++[y])=_
 rw[insT_snoc,if_pos hd]
theorem preL_now {X:List TyV} {k:Nat} {y:TyV} (h:X[k]?=some y) {x:TyV} (hd:(X.take k).any (fun y=>nmLt x.y.s y.y.s)=false) (hy:nmLt x.y.s y.y.s=true):preL X x (k+1)=(preL X x k++[x])++[y]:=by
 rw[preL,any_succ h,hd,Bool.false_or,if_pos hy,preL,if_neg (by rw[hd];decide),Vq,h]
 show insT _ x (X.take k++[y])=_
 rw[insT_snoc,if_neg (by rw[hd];decide),if_pos hy]
 simp
theorem preL_later {X:List TyV} {k:Nat} {y:TyV} (h:X[k]?=some y) {x:TyV} (hd:(X.take k).any (fun y=>nmLt x.y.s y.y.s)=false) (hy:nmLt x.y.s y.y.s=false):preL X x (k+1)=preL X x k++[y]:=by
 rw[preL,any_succ h,hd,Bool.false_or,if_neg (by rw[hy];decide),preL,if_neg (by rw[hd];decide),Vq,h]
 rfl
theorem preL_end_done {X:List TyV} {x:TyV} (hd:X.any (fun y=>nmLt x.y.s y.y.s)=true):preL X x X.length=insT (·.y.s) x X:=by
 rw[preL,Vz (J9 _),if_pos hd]
theorem insT_last {X:List TyV} {x:TyV} (hd:X.any (fun y=>nmLt x.y.s y.y.s)=false):insT (·.y.s) x X=X++[x]:=by
 induction X with
 |nil=>rfl
 |cons y r ih=>
  simp only[List.any_cons,Bool.or_eq_false_iff] at hd
  rw[insT,if_neg (by rw[hd.1];decide),ih hd.2]
  rfl
theorem preL_end_not {X:List TyV} {x:TyV} (hd:X.any (fun y=>nmLt x.y.s y.y.s)=false):preL X x X.length++[x]=insT (·.y.s) x X:=by
 rw[preL,Vz (J9 _),if_neg (by rw[hd];decide),insT_last hd]
theorem cellsTy_snoc (l:List TyV) (x:TyV):cellsTy (l++[x])=cellsTy l++x.cells:=by simp[cellsTy]
theorem rput_m (A:Option Addr) (c n:Nat) (X:List TyV) (hn:X.length=n) (hl:n≤1000) (x:TyV) (nf nt:Nat) (hnf:x.fv.length=nf) (hnt:x.tv.length=nt) (w:World) (hA:Rd w A (cellsTy X)):
 Calls Tryz.prog 58 #[.slice A n c,.agg #[.string x.y.s,.int .i64 (x.y.old:Nat),.slice x.F nf x.f,.slice x.T nt x.t]] w fun e w'=>∃B d,e=.returned (.slice B (n+1) d)∧n+1≤d∧Rd w' B (cellsTy (insT (·.y.s) x X))∧Below w.heap.size w w':=by
 obtain⟨i0,hi,hz0,hz1,hz2⟩:=info_parts infoTy
 have nb:=below_new (w:=w) (.cells #[.string x.y.s,.int .i64 (x.y.old:Nat),.slice x.F nf x.f,.slice x.T nt x.t] 58)
 have P:=OBox.new w [.string x.y.s,.int .i64 (x.y.old:Nat),.slice x.F nf x.f,.slice x.T nt x.t] 58
 have hxc:x.cells=[.string x.y.s,.int .i64 (x.y.old:Nat),.slice x.F nf x.f,.slice x.T nt x.t]:=by rw[TyV.cells,hnf,hnt]
 have HN:=J0 hn;have HXC:=J0 hxc
 clear hn hnf hnt hxc
 go_enter Tryz.func58,Tryz.ntmps58
 go_upto_region 4 with fail
 have hown0:=own_nil (w.alloc (.cells #[.string x.y.s,.int .i64 (x.y.old:Nat),.slice x.F nf x.f,.slice x.T nt x.t] 58)) w.heap.size 58 4
 generalize w.alloc (.cells #[.string x.y.s,.int .i64 (x.y.old:Nat),.slice x.F nf x.f,.slice x.T nt x.t] 58)=W1 at *
 have hpb:w.heap.size<W1.heap.size:=P.lt
 have HP:∀W',Below W1.heap.size W1 W'→OBox W' w.heap.size [.string x.y.s,.int .i64 (x.y.old:Nat),.slice x.F nf x.f,.slice x.T nt x.t] 58:=fun W' hb=>P.below hb
 have HBw:∀W',Below W1.heap.size W1 W'→Below w.heap.size w W':=fun W' hb=>nb.trans (hb.mono nb.size)
 clear P
 go_loopw [5,6,7] (fun v b i wr=>∃(k z:Nat) (d:Bool),k≤n∧i=.int .i64 k∧b=.bool d∧Hid ((X.take k).any (fun y=>nmLt x.y.s y.y.s)=d)∧wr.ownsRow W1.heap.size 58 4 v z (cellsTy (preL X x k))∧z≤k+1∧(d=false→z=k)∧(d=true→z=k+1)∧Below W1.heap.size W1 wr) (fun _ _ i _=>n - (intOf i).toNat)
 case atStart=>exact⟨0,0,false,by omega,rfl,rfl,J0 (by simp),own_nil _ _ _ _,by omega,(fun _=>rfl),(fun h=>by cases h),Jy _ _⟩
 case round=>
  obtain⟨k,z,d,hk,rfl,rfl,hd,hown,hzk,hz0',hz1',HB⟩:=hrel
  have hAr:=hA.below (HBw _ HB)
  obtain⟨V,vc,rfl,_,_,_⟩:=own_rd hown
  by_cases hlt:k<n
  ·obtain⟨y,hy⟩:∃y,X[k]?=some y:=⟨_,J4 (by rw[HN.out];exact hlt)⟩
   obtain⟨ad,rfl,c0,c1,c2,c3⟩:=hAr.ty hy
   have HY:=J0 hy
   obtain⟨mf,hmf⟩:∃m,y.fv.length=m:=⟨_,rfl⟩
   obtain⟨mt,hmt⟩:∃m,y.tv.length=m:=⟨_,rfl⟩
   rw[hmf] at c2;rw[hmt] at c3
   have hyc:y.cells=[.string y.y.s,.int .i64 (y.y.old:Nat),.slice y.F mf y.f,.slice y.T mt y.t]:=by rw[TyV.cells,hmf,hmt]
   have HMF:=J0 hmf;have HMT:=J0 hmt
   have HYC:=J0 hyc
   have h0:(0:Int)≤(k:Int):=by omega
   have h1:(k:Int)<(n:Int):=by omega
   obtain⟨l,hlt2⟩:∃l,Op.bytesLess x.y.s.toList y.y.s.toList=l:=⟨_,rfl⟩
   have HLT:Hid (nmLt x.y.s y.y.s=l):=J0 hlt2
   have P:=HP _ HB
   clear hAr hy hmf hmt hyc
   have hcell:∀W',Below wr.heap.size wr W'→W'.cell? ⟨w.heap.size,0,none⟩=some (.string x.y.s)∧W'.cell? (ad.add (k * 4))=some (.string y.y.s):=fun W' hb=>⟨(P.below hb).cell rfl,cell_below (B:=0) hb c0⟩
   have hcY:∀W',Below W1.heap.size W1 W'→W'.cell? (ad.add (k * 4))=some (.string y.y.s)∧W'.cell? ⟨(ad.add (k * 4)).block,(ad.add (k * 4)).off+(0+1),none⟩=some (.int .i64 (y.y.old:Nat))∧W'.cell? ⟨(ad.add (k * 4)).block,(ad.add (k * 4)).off+(1+1),none⟩=some (.slice y.F mf y.f)∧W'.cell? ⟨(ad.add (k * 4)).block,(ad.add (k * 4)).off+(2+1),none⟩=some (.slice y.T mt y.t):=fun W' hb=>by
    obtain⟨ad',e,q0,q1,q2,q3⟩:=(hA.below (HBw _ hb)).ty HY.out
    cases e
    rw[HMF.out] at q2;rw[HMT.out] at q3
    exact⟨q0,q1,q2,q3⟩
   have hpx:∀W',Below wr.heap.size wr W'→OBox W' w.heap.size [.string x.y.s,.int .i64 (x.y.old:Nat),.slice x.F nf x.f,.slice x.T nt x.t] 58:=fun W' hb=>P.below hb
   have hownW:∀W',Below wr.heap.size wr W'→W'.ownsRow W1.heap.size 58 4 (.slice V z vc) z (cellsTy (preL X x k)):=fun W' hb=>own_below hown hb
   clear P c0 c1 c2 c3 hown
   cases d
   ·obtain rfl:k=z:=(hz0' rfl).symm
    clear hz0' hz1'
    go_upto_region 6 with fail
    refine RW.start (fun w'=>Below wr.heap.size wr w') (by kernel_rfl) (by kernel_rfl) (Jy _ _).drew ?_
    repeat (first
     |(refine' RW.val (by rfl) ?_ ?_;rotate_left;(focus (intro w' hS;have HB5:=hS;obtain⟨p0,q0⟩:=hcell _ HB5;clear hS;go_simp;rfl));simp only[Act.put,J1,J3,J2])
     |(refine RW.off (by rfl) ?_;simp only[Act.put,J1,J3,J2]))
    refine RW.done (fun w' hS=>?_)
    have HB5:=hS;obtain⟨p0,q0⟩:=hcell _ HB5;clear hS
    rename World=>w5
    have hown:=hownW _ HB5
    have HB6:=HB.trans (HB5.mono HB.size)
    have hz6:=HB6.size
    cases l
    ·have hpre:=preL_later HY.out hd.out HLT.out
     have HPR:=J0 hpre
     have hdd:Hid ((X.take (k+1)).any (fun y=>nmLt x.y.s y.y.s)=false):=J0 (by rw[any_succ HY.out,hd.out,HLT.out];rfl)
     obtain⟨c0,c1,c2,c3⟩:=hcY _ HB6
     clear hpre hcell hownW hcY hpx p0 q0
     go_wp2_with (at_builtin;refine wpList_append_own _ rfl _ _ 41 rfl W1.heap.size 58 i0 (.agg #[.string ⟨#[]⟩,.int .i64 0,.slice none 0 0,.slice none 0 0]) 4 72 Tryz.underlying41 hi hz0 hz1 hz2 rfl (by decide) _ _ _ rfl (hown.alloc _) ⟨w5.heap.size,0,none⟩ 1 1 [.string y.y.s,.int .i64 (y.y.old:Nat),.slice y.F mf y.f,.slice y.T mt y.t] rfl rfl ?c1 ?c2 ?c3 ?c4 ?c5 ?_)
     case c1=>exact newsL _ _ _ (by simp)
     case c2=>intro u hu;simp at hu;rcases hu with rfl|rfl|rfl|rfl <;> rfl
     case c3=>simp only[maxLen];omega
     case c4=>omega
     case c5=>simp <;> omega
     intro v' w3 hown' hgrow _
     have BG:Below W1.heap.size w5 w3:=((Jy _ _).alloc (by omega) (.cells #[.string y.y.s,.int .i64 (y.y.old:Nat),.slice y.F mf y.f,.slice y.T mt y.t] 58)).grown hgrow (by simp <;> omega) (fun q hq=>own_base hown q hq)
     have hown3:w3.ownsRow W1.heap.size 58 4 v' (k+1) (cellsTy (preL X x (k+1))):=own_eq hown' (by simp) (by rw[HPR.out,cellsTy_snoc _ y,HYC.out])
     obtain⟨B',c',rfl,_,_,_⟩:=own_rd hown3
     have HB3:=HB6.trans BG
     clear hown' hgrow hown c0 c1 c2 c3
     go_wp2
     go_roundw
     case rel=>exact⟨k+1,k+1,false,by omega,by go_num,rfl,hdd,hown3,by omega,(fun _=>rfl),(fun h=>by cases h),HB3⟩
     case measure=>simp[intOf];omega
    ·have hpre:=preL_now HY.out hd.out HLT.out
     have HPR:=J0 hpre
     have hdd:Hid ((X.take (k+1)).any (fun y=>nmLt x.y.s y.y.s)=true):=J0 (by rw[any_succ HY.out,hd.out,HLT.out];rfl)
     obtain⟨p0,p1,p2,p3⟩:=(hpx _ HB5).f4
     clear hpre hcell hownW q0
     go_upto_region 8 with (at_builtin;refine wpList_append_own _ rfl _ _ 41 rfl W1.heap.size 58 i0 (.agg #[.string ⟨#[]⟩,.int .i64 0,.slice none 0 0,.slice none 0 0]) 4 72 Tryz.underlying41 hi hz0 hz1 hz2 rfl (by decide) _ _ _ rfl (hown.alloc _) ⟨w5.heap.size,0,none⟩ 1 1 [.string x.y.s,.int .i64 (x.y.old:Nat),.slice x.F nf x.f,.slice x.T nt x.t] rfl rfl ?c1 ?c2 ?c3 ?c4 ?c5 ?_)
     case c1=>exact newsL _ _ _ (by simp)
     case c2=>intro u hu;simp at hu;rcases hu with rfl|rfl|rfl|rfl <;> rfl
     case c3=>simp only[maxLen];omega
     case c4=>omega
     case c5=>simp <;> omega
     intro v6 w6 hown' hgrow _
     have BG:Below W1.heap.size w5 w6:=((Jy _ _).alloc (by omega) (.cells #[.string x.y.s,.int .i64 (x.y.old:Nat),.slice x.F nf x.f,.slice x.T nt x.t] 58)).grown hgrow (by simp <;> omega) (fun q hq=>own_base hown q hq)
     have hown6:w6.ownsRow W1.heap.size 58 4 v6 (k+1) (cellsTy (preL X x k++[x])):=own_eq hown' (by simp) (by rw[cellsTy_snoc,HXC.out])
     obtain⟨V6,c6,rfl,_,_,_⟩:=own_rd hown6
     have HB7:=HB6.trans BG
     have hz7:=HB7.size
     obtain⟨c0,c1,c2,c3⟩:=hcY _ HB7
     clear hown' hgrow hown p0 p1 p2 p3 hcY hpx
     go_wp2_with (at_builtin;refine wpList_append_own _ rfl _ _ 41 rfl W1.heap.size 58 i0 (.agg #[.string ⟨#[]⟩,.int .i64 0,.slice none 0 0,.slice none 0 0]) 4 72 Tryz.underlying41 hi hz0 hz1 hz2 rfl (by decide) _ _ _ rfl (hown6.alloc _) ⟨w6.heap.size,0,none⟩ 1 1 [.string y.y.s,.int .i64 (y.y.old:Nat),.slice y.F mf y.f,.slice y.T mt y.t] rfl rfl ?c1 ?c2 ?c3 ?c4 ?c5 ?_)
     case c1=>exact newsL _ _ _ (by simp)
     case c2=>intro u hu;simp at hu;rcases hu with rfl|rfl|rfl|rfl <;> rfl
     case c3=>simp only[maxLen];omega
     case c4=>omega
     case c5=>simp <;> omega
     intro v' w3 hown' hgrow _
     have BG:Below W1.heap.size w6 w3:=((Jy _ _).alloc (by omega) (.cells #[.string y.y.s,.int .i64 (y.y.old:Nat),.slice y.F mf y.f,.slice y.T mt y.t] 58)).grown hgrow (by simp <;> omega) (fun q hq=>own_base hown6 q hq)
     have hown3:w3.ownsRow W1.heap.size 58 4 v' (k+1+1) (cellsTy (preL X x (k+1))):=own_eq hown' (by simp) (by rw[HPR.out,cellsTy_snoc _ y,HYC.out])
     obtain⟨B',c',rfl,_,_,_⟩:=own_rd hown3
     have HB3:=HB7.trans BG
     clear hown' hgrow hown6 c0 c1 c2 c3
     go_wp2
     go_roundw
     case rel=>exact⟨k+1,k+1+1,true,by omega,by go_num,rfl,hdd,hown3,by omega,(fun h=>by cases h),(fun _=>rfl),HB3⟩
     case measure=>simp[intOf];omega
   ·obtain rfl:z=k+1:=hz1' rfl
    clear hz0' hz1'
    have hpre:=preL_done HY.out hd.out
    have HPR:=J0 hpre
    have hdd:Hid ((X.take (k+1)).any (fun y=>nmLt x.y.s y.y.s)=true):=J0 (by rw[any_succ HY.out,hd.out];rfl)
    clear hpre hcell
    go_upto_region 6 with fail
    refine RW.start (fun w'=>Below wr.heap.size wr w') (by kernel_rfl) (by kernel_rfl) (Jy _ _).drew ?_
    repeat (first
     |(refine' RW.val (by rfl) ?_ ?_;rotate_left;(focus (intro w' hS;have HB5:=hS;clear hS;go_simp;rfl));simp only[Act.put,J1,J3,J2])
     |(refine RW.off (by rfl) ?_;simp only[Act.put,J1,J3,J2]))
    refine RW.done (fun w' hS=>?_)
    have HB5:=hS;clear hS
    rename World=>w5
    have hown:=hownW _ HB5
    have HB6:=HB.trans (HB5.mono HB.size)
    obtain⟨c0,c1,c2,c3⟩:=hcY _ HB6
    have hz6:=HB6.size
    clear hownW hcY hpx
    go_wp2_with (at_builtin;refine wpList_append_own _ rfl _ _ 41 rfl W1.heap.size 58 i0 (.agg #[.string ⟨#[]⟩,.int .i64 0,.slice none 0 0,.slice none 0 0]) 4 72 Tryz.underlying41 hi hz0 hz1 hz2 rfl (by decide) _ _ _ rfl (hown.alloc _) ⟨w5.heap.size,0,none⟩ 1 1 [.string y.y.s,.int .i64 (y.y.old:Nat),.slice y.F mf y.f,.slice y.T mt y.t] rfl rfl ?c1 ?c2 ?c3 ?c4 ?c5 ?_)
    case c1=>exact newsL _ _ _ (by simp)
    case c2=>intro u hu;simp at hu;rcases hu with rfl|rfl|rfl|rfl <;> rfl
    case c3=>simp only[maxLen];omega
    case c4=>omega
    case c5=>simp <;> omega
    intro v' w3 hown' hgrow _
    have BG:Below W1.heap.size w5 w3:=((Jy _ _).alloc (by omega) (.cells #[.string y.y.s,.int .i64 (y.y.old:Nat),.slice y.F mf y.f,.slice y.T mt y.t] 58)).grown hgrow (by simp <;> omega) (fun q hq=>own_base hown q hq)
    have hown3:w3.ownsRow W1.heap.size 58 4 v' (k+1+1) (cellsTy (preL X x (k+1))):=own_eq hown' (by simp) (by rw[HPR.out,cellsTy_snoc _ y,HYC.out])
    obtain⟨B',c',rfl,_,_,_⟩:=own_rd hown3
    have HB3:=HB6.trans BG
    clear hown' hgrow hown c0 c1 c2 c3
    go_wp2
    go_roundw
    case rel=>exact⟨k+1,k+1+1,true,by omega,by go_num,rfl,hdd,hown3,by omega,(fun h=>by cases h),(fun _=>rfl),HB3⟩
    case measure=>simp[intOf];omega
  ·obtain rfl:k=n:=by omega
   have hall:X.take k=X:=Vz (by rw[HN.out];exact J9 _)
   rw[hall] at hd
   cases d
   ·obtain rfl:z=k:=hz0' rfl
    have hfin:=preL_end_not hd.out
    rw[HN.out] at hfin
    have HF:=J0 hfin
    have P:=HP _ HB
    obtain⟨p0,p1,p2,p3⟩:=P.f4
    have hz6:=HB.size
    clear hz0' hz1' hAr hall hfin P HP
    go_wp2_with (at_builtin;refine wpList_append_own _ rfl _ _ 41 rfl W1.heap.size 58 i0 (.agg #[.string ⟨#[]⟩,.int .i64 0,.slice none 0 0,.slice none 0 0]) 4 72 Tryz.underlying41 hi hz0 hz1 hz2 rfl (by decide) _ _ _ rfl (hown.alloc _) ⟨wr.heap.size,0,none⟩ 1 1 [.string x.y.s,.int .i64 (x.y.old:Nat),.slice x.F nf x.f,.slice x.T nt x.t] rfl rfl ?c1 ?c2 ?c3 ?c4 ?c5 ?_)
    case c1=>exact newsL _ _ _ (by simp)
    case c2=>intro u hu;simp at hu;rcases hu with rfl|rfl|rfl|rfl <;> rfl
    case c3=>simp only[maxLen];omega
    case c4=>omega
    case c5=>simp <;> omega
    intro v' w3 hown' hgrow _
    have BG:Below W1.heap.size wr w3:=((Jy _ _).alloc (by omega) (.cells #[.string x.y.s,.int .i64 (x.y.old:Nat),.slice x.F nf x.f,.slice x.T nt x.t] 58)).grown hgrow (by simp <;> omega) (fun q hq=>own_base hown q hq)
    have hown3:w3.ownsRow W1.heap.size 58 4 v' (z+1) (cellsTy (insT (·.y.s) x X)):=own_eq hown' (by simp) (by rw[←HF.out,cellsTy_snoc,HXC.out])
    obtain⟨B',c',rfl,hc',_,r'⟩:=own_rd hown3
    have HB3:=HBw _ (HB.trans BG)
    clear hown' hgrow hown p0 p1 p2 p3
    go_wp2
    go_ret
    exact⟨B',c',rfl,hc',r',HB3⟩
   ·obtain rfl:z=k+1:=hz1' rfl
    have hfin:=preL_end_done hd.out
    rw[HN.out] at hfin
    rw[hfin] at hown
    obtain⟨B',c',e,hc',_,r'⟩:=own_rd hown
    cases e
    have HB3:=HBw _ HB
    clear hz0' hz1' hAr hall hfin HP hown
    go_wp2
    go_ret
    exact⟨V,vc,rfl,hc',r',HB3⟩
end
end Go.Proofs.YteembinfgbapgaaGreat
