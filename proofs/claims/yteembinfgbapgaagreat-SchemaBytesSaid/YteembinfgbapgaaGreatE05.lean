/- Merged out of: Wc Na Nb Nc Nd Ne Nf Ng. -/
import Derived.Test.YteembinfgbapgaaGreatE00
import Derived.Test.YteembinfgbapgaaGreatE04
import Derived.Deep.RegionLaw
import Derived.Deep.MidRow
import Derived.ChangeKeysEq
import Derived.Lib.SliceRun
import Derived.Laws.IdiomCopy
import Derived.Maps.AppendAt
import Derived.BigRegion
set_option linter.unusedSimpArgs false
set_option linter.unusedVariables false
set_option maxRecDepth 100000
set_option maxHeartbeats 8000000
namespace Go.Proofs.YteembinfgbapgaaGreat
section
open Go.RowKit
theorem jz (s:Bool) (m:Nat) (h:m<18446744073709551616):bL s m<18446744073709551616:=by
 refine tI _ _ ?_
 by_cases h0:m=0
 ·subst h0;decide
 ·have:=(Nat.log2_lt (n:=m) (k:=64) h0).2 (by omega);omega
theorem zC (bits k k2:Int) (h0:0<=bits) (h1:bits<18446744073709551616):0<=aw bits k k2/\aw bits k k2<18446744073709551616:=by
 unfold aw
 split
 ·have:=jz false bits.toNat (by omega);omega
 ·split
  ·split
   ·have:=jz true (18446744073709551616 - bits).toNat (by omega);omega
   ·have:=jz false bits.toNat (by omega);omega
  ·split <;> omega
theorem wV {n w w2:Int} {s s2:Bool} (h0:0<=n) (h1:n<18446744073709551616) (hw2:af w2=true) (hlt:w<w2) (hs:s=true->s2=true) (h:bi n w s=true):bi n w2 s2=true:=by
 simp only[bi,Qz] at h |-
 refine⟨hw2,?_⟩
 obtain⟨hw,h⟩:=h
 have hc:=cC hw
 have hc2:=cC hw2
 have key:(s2=true/\cP n w2=n)\/(s2=false/\n<fA w2):=by
  cases s2
  ·have:s=false:=by cases s;rfl;exact absurd (hs rfl) (by simp)
   subst this
   simp at h
   refine .inr ⟨rfl,?_⟩
   rcases hc with rfl|rfl|rfl|rfl <;> rcases hc2 with rfl|rfl|rfl|rfl <;> simp[fA] at h |- <;> omega
  ·refine .inl ⟨rfl,?_⟩
   cases s
   ·simp at h
    rcases hc with rfl|rfl|rfl|rfl <;> rcases hc2 with rfl|rfl|rfl|rfl <;> simp[fA] at h <;> first|omega|(first|rw[ci n h0 h1]|rw[cj n h0 h1]|rw[jZ n h0 h1]) <;> (try split) <;> omega
   ·simp at h
    rcases hc with rfl|rfl|rfl|rfl <;> rcases hc2 with rfl|rfl|rfl|rfl <;> first|omega|(first|rw[ci n h0 h1]|rw[cj n h0 h1]|rw[jZ n h0 h1]) <;> (first|rw[dw n h0 h1] at h|rw[ci n h0 h1] at h|rw[cj n h0 h1] at h|skip) <;> (repeat' split at h) <;> (try split) <;> omega
 rcases key with ⟨rfl,h⟩|⟨rfl,h⟩
 ·simpa using h
 ·simpa using h
theorem ni {k:Int} (h:bW k 0=true) (hk:¬k=12):af (aT k 0)=true:=by
 have:=cH h hk
 simp[af];omega
theorem sY {n w:Int} {s:Bool} (h0:0<=n) (h:n<=1) (hw:af w=true):bi n w s=true:=by
 simp only[bi,Qz]
 refine⟨hw,?_⟩
 have hc:=cC hw
 have hn:n=0\/n=1:=by omega
 cases s
 ·simp
  rcases hc with rfl|rfl|rfl|rfl <;> simp[fA] <;> omega
 ·simp
  rcases hn with rfl|rfl <;> rcases hc with rfl|rfl|rfl|rfl <;> decide
theorem zo {k l:Int} (h:¬aT k l=0):bW k l=true:=by
 cases hm:bW k l
 ·exact absurd (by rw[aT,hm];rfl) h
 ·rfl
theorem nG {vk bits:Int} {tx:EP} {k l k2 l2:Int} (h0:0<=bits) (h1:bits<18446744073709551616) (hr:aM vk bits tx k l=true) (hc:aU k l k2 l2=true):
 aM k2 (aw bits k k2) (gQ tx k2 l2) k2 l2=true/\((gQ tx k2 l2).size:Int)=l2:=by
 obtain⟨hm,rfl,ht,hf⟩:=bg hr
 clear hr
 have hm2:bW k2 l2=true:=by
  unfold aU at hc
  split at hc
  ·cases hc
  ·rename_i hz
   exact zo fun e=>hz (.inr e)
 by_cases hk:k2=12
 ·subst hk
  obtain⟨rfl,-⟩:=gq hc
  have hb:=eI▸hm2
  have hb:=br.1 hb
  have hs:((gQ tx 12 l2).size:Int)=l2:=by rw[gQ,Xz rfl,aj,mJ];omega
  refine⟨?_,hs⟩
  have e:aw bits 12 12=bits:=by simp[aw]
  have hf':fQ bits 12 l2=true:=by simpa[fQ] using hf
  rw[e]
  simp only[aM,hm2,hs,hf',if_true,decide_true,Bool.and_true,Bool.true_and]
 ·have hl2:l2=0:=(fm hm2 hk).1
  subst hl2
  have hT:gQ tx k2 0=⟨#[]⟩:=by rw[gQ,Xy hk]
  rw[hT]
  refine⟨?_,rfl⟩
  have goal:fQ (aw bits vk k2) k2 0=true->aM k2 (aw bits vk k2) ⟨#[]⟩ k2 0=true:=fun h=>by
   simp only[aM,hm2,h,decide_true,Bool.and_true,Bool.true_and,Xy hk]
   rfl
  apply goal
  have hw2:=ni hm2 hk
  by_cases h10:k2=10\/k2=11
  ·rcases h10 with rfl|rfl <;> simp[fQ]
  ·have hne:¬(k2=10/\eK 1 vk 4=true):=fun h=>h10 (.inl h.1)
   have hne2:¬(k2=10/\eK 5 vk 8=true):=fun h=>h10 (.inl h.1)
   by_cases h8:k2=8/\vk=10
   ·obtain⟨rfl,rfl⟩:=h8
    have e:aw bits 10 8=cN bits.toNat % 18446744073709551616:=by simp[aw]
    rw[e,fQ,Xy (by decide),Xy (by decide),show aT 8 0=8 by decide,show eK 5 8 8=true by decide]
    simp[bi,af,jZ (cN bits.toNat % 18446744073709551616) (by omega) (by omega)]
   ·have e:aw bits vk k2=bits:=by rw[aw,Xy hne,Xy hne2,Xy h8]
    rw[e]
    by_cases hkk:vk=k2
    ·subst hkk
     have:l=0:=(fm hm hk).1
     subst this
     exact hf
    ·unfold aU at hc
     rw[Xy hkk] at hc
     split at hc
     ·cases hc
     ·have h12:¬vk=12:=fun h=>by
       subst h
       rw[Xy (by decide),Xy (by decide),Xy (by decide)] at hc
       simp at hc
      obtain⟨rfl,-⟩:=fm hm h12
      split at hc
      ·rename_i h9
       subst h9
       have hb1:bits<=1:=by simpa[fQ] using hf
       rw[fQ,Xy hk]
       split
       ·simpa using hb1
       ·rw[sY h0 hb1 hw2];rfl
      ·rename_i h9
       have hk9:¬k2=9:=fun h=>by
        subst h
        split at hc
        ·simp[eK] at hc
        ·split at hc
         ·simp[eK] at hc
         ·simp at hc
       have hd10:decide (k2=10)=false:=by simp;omega
       split at hc
       ·rename_i h14
        have hb:=br.1 h14
        rw[hd10,Bool.or_false,Qz,Y8] at hc
        have hf':bi bits (aT vk 0) (eK 5 vk 8)=true:=by
         rw[fQ,Xy h12,Xy h9] at hf
         simpa[show ¬vk=10 by omega,show ¬vk=11 by omega] using hf
        have h5:eK 5 vk 8=false:=by rw[qa];omega
        rw[fQ,Xy hk,Xy hk9,wV h0 h1 hw2 hc.2 (by rw[h5];simp) hf'];rfl
       ·split at hc
        ·rename_i h58
         rw[hd10,Bool.or_false,Qz,Y8] at hc
         have hb:=br.1 h58
         have hf':bi bits (aT vk 0) (eK 5 vk 8)=true:=by
          rw[fQ,Xy h12,Xy h9] at hf
          simpa[show ¬vk=10 by omega,show ¬vk=11 by omega] using hf
         rw[fQ,Xy hk,Xy hk9,wV h0 h1 hw2 hc.2 (by intro _;exact hc.1) hf'];rfl
        ·simp at hc;omega
structure Ch where
 op:Int
 s:EP
 g:Fd
 d:Vl
 q:List Int
def uH (n:Nat):List Int:=(List.range n).map fun k:Nat=>(k:Int)
theorem uI (n:Nat):uH (n+1)=uH n++[(n:Int)]:=by simp[uH,List.range_succ]
theorem oQ (n:Nat):(uH n).length=n:=by simp[uH]
theorem BO {n:Nat} {x:Int}:x∈uH n↔0<=x/\x<n:=by
 simp only[uH,Vy,List.mem_range]
 constructor
 ·rintro ⟨k,hk,rfl⟩;omega
 ·rintro ⟨h0,h1⟩;exact⟨x.toNat,by omega,by omega⟩
def fD (q:List Int) (n:Nat):Bool:=decide (q.Perm (uH n))
theorem ti (n:Nat):∀q:List Int,q.length=n->(∀k:Nat,k<n->(k:Int)∈q)->q.Perm (uH n):=by
 induction n with
 |zero=>intro q hq _;rw[List.eq_nil_of_length_eq_zero hq];exact List.Perm.refl _
 |succ n ih=>
  intro q hq h
  have hn:=h n (by omega)
  have h1:=List.perm_cons_erase hn
  have h2:=ih (q.erase n) (by rw[List.length_erase_of_mem hn];omega) (fun k hk=>(List.mem_erase_of_ne (by omega)).2 (h k (by omega)))
  rw[uI]
  exact h1.trans ((List.Perm.cons _ h2).trans (List.perm_append_singleton _ _).symm)
theorem oC {q:List Int} {n:Nat} (h:fD q n=true) {x:Int} (hx:x∈q):0<=x/\x<n:=BO.1 ((Yv h).mem_iff.1 hx)
theorem kl {q:List Int} {n:Nat} (h:fD q n=true):q.length=n:=by rw[(Yv h).length_eq,oQ]
def jc (l:List Fd) (c:Ch):Nat:=(aW l c.s).toNat
def cI (l:List Fd) (c:Ch):List Fd:=
 if c.op=1 then l++[c.g]
 else if c.op=2 then l.eraseIdx (jc l c)
 else if c.op=3 then l.modify (jc l c) fun f=>⟨c.g.s,f.k,f.l⟩
 else if c.op=4 then l.modify (jc l c) fun f=>⟨f.s,c.g.k,c.g.l⟩
 else c.q.map fun n=>(l[n.toNat]?).getD Fd.z
def dV (l:List Fd) (c:Ch):List Mv:=
 if c.op=1 then kM l.length++[⟨-1,c.d⟩]
 else if c.op=2 then(kM l.length).eraseIdx (jc l c)
 else if c.op=5 then c.q.map fun n=>⟨n,Vl.z⟩
 else kM l.length
def gR (l:List Fd) (c:Ch):Bool:=match l[jc l c]? with|some f=>aU f.k f.l c.g.k c.g.l|none=>false
def ie (c:Ch):Bool:=aM c.d.k c.d.b c.d.t c.g.k c.g.l && (decide (c.g.k≠11) || decide (c.d.b=0))
def bj (l:List Fd) (c:Ch):Int:=
 if aK l=false then 60
 else if ¬(1<=c.op/\c.op<=5) then 80
 else if 2<=c.op/\c.op<=4/\aW l c.s<0 then 61
 else if c.op=1/\ie c=false then 80
 else if c.op=4/\gR l c=false then 80
 else if c.op=5/\fD c.q l.length=false then 80
 else 0
def eO (l:List Fd) (c:Ch):Tb:=⟨l,cI l c,dV l c⟩
def Tb.z:Tb:=⟨[],[],[]⟩
def dR (l:List Fd) (c:Ch):Int:=if bj l c=0 then(if aK (cI l c)=true then 0 else 80) else bj l c
def dy (l:List Fd) (c:Ch):Tb:=if dR l c=0 then eO l c else Tb.z
theorem uo {k l:Int} (h:bW k l=true):aU k l k l=true:=by
 have:¬aT k l=0:=by rw[fu];simp[h]
 simp[aU,this]
theorem fL {l:List Fd} (h:aK l=true) {j:Nat} {f:Fd} (hf:l[j]?=some f):aU f.k f.l f.k f.l=true:=uo (lQ h hf).2.1
theorem fK {o:List Fd} {g f:Fd} {i:Int} (h0:0<=i) (hf:o[i.toNat]?=some f) (hc:aU f.k f.l g.k g.l=true):eW o g ⟨i,Vl.z⟩=true:=by
 rw[eW,Xy (by show ¬i=-1;omega)]
 simp[h0,hf,hc]
theorem iw {n j:Nat} (h:j<n):(kM n)[j]?=some ⟨(j:Int),Vl.z⟩:=by simp[kM,h]
theorem dN {t:Tb} {k:Nat} {m:Mv} {g:Fd} (hm:t.m[k]?=some m) (hg:t.n[k]?=some g):eu t k=eW t.o g m:=by simp[eu,hm,hg]
theorem ae {t:Tb}:ar t=true↔aK t.o=true/\aK t.n=true/\t.m.length=t.n.length/\∀k,k<t.m.length->eu t k=true:=by
 simp only[ar,Qz,Y8,and_assoc]
theorem vG {l:List Fd} (h:aK l=true):ar ⟨l,l,kM l.length⟩=true:=by
 rw[ae]
 refine⟨h,h,aP _,fun k hk=>?_⟩
 rw[aP] at hk
 have hf:l[k]?=some (l[k]'hk):=J4 hk
 rw[dN (iw hk) hf]
 exact fK (by omega) (by rw[Int.toNat_natCast];exact hf) (fL h hf)
theorem bx {l:List Fd} (h:aK l=true):bA l=⟨l,l,kM l.length⟩:=by rw[bA,Xz h];rfl
theorem nC {l:List Fd} {c:Ch} (h:¬aW l c.s<0):jc l c<l.length:=by
 have:=eE l c.s;unfold jc;omega
theorem Cx {l:List Fd} {c:Ch} (hr:aK l=true) (h1:1<=c.op/\c.op<=5) (h2:2<=c.op/\c.op<=4->¬aW l c.s<0) (h4:c.op=4->gR l c=true) (h5:c.op=5->fD c.q l.length=true):
 (dV l c).length=(cI l c).length/\∀k,k<(dV l c).length->eu (eO l c) k=(if c.op=1/\k=l.length then ie c else true):=by
 rcases(by omega:c.op=1\/c.op=2\/c.op=3\/c.op=4\/c.op=5) with e|e|e|e|e
 ·have eF:cI l c=l++[c.g]:=by simp[cI,e]
  have eM:dV l c=kM l.length++[⟨-1,c.d⟩]:=by simp[dV,e]
  refine⟨by rw[eF,eM];simp[aP],fun k hk=>?_⟩
  rw[eM] at hk
  simp[aP] at hk
  by_cases hl:k=l.length
  ·rw[Xz ⟨e,hl⟩,dN (t:=eO l c) (m:=⟨-1,c.d⟩) (g:=c.g) (by show(dV l c)[k]?=_;rw[eM,Qk (by rw[aP];omega)];simp[aP,hl]) (by show(cI l c)[k]?=_;rw[eF];simp[hl])]
   rw[eW,Xz rfl];rfl
  ·rw[Xy (fun h=>hl h.2)]
   have hk':k<l.length:=by omega
   have hf:l[k]?=some (l[k]'hk'):=J4 hk'
   rw[dN (t:=eO l c) (m:=⟨k,Vl.z⟩) (g:=l[k]'hk') (by show(dV l c)[k]?=_;rw[eM,X9 (by rw[aP];omega)];exact iw hk') (by show(cI l c)[k]?=_;rw[eF,X9 hk'];exact hf)]
   exact fK (by omega) (by show l[((k:Nat):Int).toNat]?=_;rw[Int.toNat_natCast];exact hf) (fL hr hf)
 ·have hx:=nC (h2 (by omega))
  have eF:cI l c=l.eraseIdx (jc l c):=by simp[cI,e]
  have eM:dV l c=(kM l.length).eraseIdx (jc l c):=by simp[dV,e]
  refine⟨by rw[eF,eM,List.length_eraseIdx_of_lt (by rw[aP];exact hx),List.length_eraseIdx_of_lt hx,aP],fun k hk=>?_⟩
  rw[eM,List.length_eraseIdx_of_lt (by rw[aP];exact hx),aP] at hk
  rw[Xy (by rintro ⟨h,_⟩;omega)]
  by_cases hl:k<jc l c
  ·have hk':k<l.length:=by omega
   have hf:l[k]?=some (l[k]'hk'):=J4 hk'
   rw[dN (t:=eO l c) (m:=⟨k,Vl.z⟩) (g:=l[k]'hk') (by show(dV l c)[k]?=_;rw[eM,List.getElem?_eraseIdx,Xz hl];exact iw hk') (by show(cI l c)[k]?=_;rw[eF,List.getElem?_eraseIdx,Xz hl];exact hf)]
   exact fK (by omega) (by show l[((k:Nat):Int).toNat]?=_;rw[Int.toNat_natCast];exact hf) (fL hr hf)
  ·have hk':k+1<l.length:=by omega
   have hf:l[k+1]?=some (l[k+1]'hk'):=J4 hk'
   rw[dN (t:=eO l c) (m:=⟨((k+1:Nat):Int),Vl.z⟩) (g:=l[k+1]'hk') (by show(dV l c)[k]?=_;rw[eM,List.getElem?_eraseIdx,Xy hl];exact iw hk') (by show(cI l c)[k]?=_;rw[eF,List.getElem?_eraseIdx,Xy hl];exact hf)]
   exact fK (by omega) (by show l[((k+1:Nat):Int).toNat]?=_;rw[Int.toNat_natCast];exact hf) (fL hr hf)
 ·have hx:=nC (h2 (by omega))
  have eF:cI l c=l.modify (jc l c) fun f=>⟨c.g.s,f.k,f.l⟩:=by simp[cI,e]
  have eM:dV l c=kM l.length:=by simp[dV,e]
  refine⟨by rw[eF,eM,List.length_modify,aP],fun k hk=>?_⟩
  rw[eM,aP] at hk
  rw[Xy (by rintro ⟨h,_⟩;omega)]
  have hf:l[k]?=some (l[k]'hk):=J4 hk
  obtain⟨g,hg,g1,g2⟩:∃g,(cI l c)[k]?=some g/\g.k=(l[k]'hk).k/\g.l=(l[k]'hk).l:=by
   rw[eF,List.getElem?_modify,hf]
   by_cases hl:jc l c=k
   ·exact⟨⟨c.g.s,(l[k]'hk).k,(l[k]'hk).l⟩,by simp[hl],rfl,rfl⟩
   ·exact⟨l[k]'hk,by simp[hl],rfl,rfl⟩
  rw[dN (t:=eO l c) (m:=⟨k,Vl.z⟩) (g:=g) (by show(dV l c)[k]?=_;rw[eM];exact iw hk) hg]
  exact fK (by omega) (by show l[((k:Nat):Int).toNat]?=_;rw[Int.toNat_natCast];exact hf) (by rw[g1,g2];exact fL hr hf)
 ·have hx:=nC (h2 (by omega))
  have eF:cI l c=l.modify (jc l c) fun f=>⟨f.s,c.g.k,c.g.l⟩:=by simp[cI,e]
  have eM:dV l c=kM l.length:=by simp[dV,e]
  refine⟨by rw[eF,eM,List.length_modify,aP],fun k hk=>?_⟩
  rw[eM,aP] at hk
  rw[Xy (by rintro ⟨h,_⟩;omega)]
  have hf:l[k]?=some (l[k]'hk):=J4 hk
  obtain⟨g,hg,hc⟩:∃g,(cI l c)[k]?=some g/\aU (l[k]'hk).k (l[k]'hk).l g.k g.l=true:=by
   rw[eF,List.getElem?_modify,hf]
   by_cases hl:jc l c=k
   ·refine⟨⟨(l[k]'hk).s,c.g.k,c.g.l⟩,by simp[hl],?_⟩
    have:=h4 e
    rw[gR,hl,hf] at this
    exact this
   ·exact⟨l[k]'hk,by simp[hl],fL hr hf⟩
  rw[dN (t:=eO l c) (m:=⟨k,Vl.z⟩) (g:=g) (by show(dV l c)[k]?=_;rw[eM];exact iw hk) hg]
  exact fK (by omega) (by show l[((k:Nat):Int).toNat]?=_;rw[Int.toNat_natCast];exact hf) hc
 ·have eF:cI l c=c.q.map fun n=>(l[n.toNat]?).getD Fd.z:=by simp[cI,e]
  have eM:dV l c=c.q.map fun n=>⟨n,Vl.z⟩:=by simp[dV,e]
  refine⟨by rw[eF,eM,Kz,Kz],fun k hk=>?_⟩
  rw[eM,Kz] at hk
  rw[Xy (by rintro ⟨h,_⟩;omega)]
  have hq:c.q[k]?=some (c.q[k]'hk):=J4 hk
  obtain⟨b0,b1⟩:=oC (h5 e) (List.getElem_mem hk)
  have hk':(c.q[k]'hk).toNat<l.length:=by omega
  have hf:l[(c.q[k]'hk).toNat]?=some (l[(c.q[k]'hk).toNat]'hk'):=J4 hk'
  rw[dN (t:=eO l c) (m:=⟨c.q[k]'hk,Vl.z⟩) (g:=l[(c.q[k]'hk).toNat]'hk') (by show(dV l c)[k]?=_;rw[eM,Kv,hq];rfl) (by show(cI l c)[k]?=_;rw[eF,Kv,hq];simp[hf])]
  exact fK b0 hf (fL hr hf)
theorem ib {l:List Fd} {c:Ch} (hr:aK l=true) (h1:1<=c.op/\c.op<=5) (h2:2<=c.op/\c.op<=4->¬aW l c.s<0) (h4:c.op=4->gR l c=true) (h5:c.op=5->fD c.q l.length=true):
 ar (eO l c)=(aK (cI l c) && (decide (c.op≠1) || ie c)):=by
 obtain⟨hlen,hok⟩:=Cx hr h1 h2 h4 h5
 rw[Qy,ae,Qz,Bool.or_eq_true,Y8]
 constructor
 ·rintro ⟨_,h,_,ha⟩
  refine⟨h,?_⟩
  by_cases e:c.op=1
  ·have hl:(dV l c).length=l.length+1:=by simp[dV,e,aP]
   have h:=ha l.length (by show _<(dV l c).length;omega)
   rw[hok _ (by omega),Xz ⟨e,rfl⟩] at h
   exact .inr h
  ·exact .inl e
 ·rintro ⟨h,ha⟩
  refine⟨hr,h,hlen,fun k hk=>?_⟩
  rw[hok k hk]
  split
  ·rename_i e
   rcases ha with ha|ha
   ·exact absurd e.1 ha
   ·exact ha
  ·rfl
theorem tS {l:List Fd} {c:Ch} (h:dR l c=0):ar (dy l c)=true/\aK l=true/\aK (cI l c)=true/\dy l c=eO l c:=by
 have e:dy l c=eO l c:=by rw[dy,Xz h]
 unfold dR at h
 split at h
 ·rename_i hs
  split at h
  ·rename_i hf
   unfold bj at hs
   split at hs;· omega
   rename_i h0
   split at hs;· omega
   rename_i h1
   split at hs;· omega
   rename_i h2
   split at hs;· omega
   rename_i h3
   split at hs;· omega
   rename_i h4
   split at hs;· omega
   rename_i h5
   have hr:aK l=true:=by simpa using h0
   refine⟨?_,hr,hf,e⟩
   rw[e,ib hr (by omega) (fun h=>fun h'=>h2 ⟨h.1,h.2,h'⟩) (fun h=>Bool.of_not_eq_false fun hc=>h4 ⟨h,hc⟩) (fun h=>Bool.of_not_eq_false fun hc=>h5 ⟨h,hc⟩),hf]
   by_cases e1:c.op=1
   ·cases hc:ie c
    ·exact absurd ⟨e1,hc⟩ h3
    ·simp
   ·simp[e1]
  ·omega
 ·rename_i hs;exact absurd h hs
def dH (v:Vl) (f g:Fd):Vl:=if aM v.k v.b v.t f.k f.l=true/\aU f.k f.l g.k g.l=true then⟨g.k,aw v.b f.k g.k,gQ v.t g.k g.l⟩ else Vl.z
theorem Bm (v:Vl) (f g:Fd):gp v.k v.b v.t f.k f.l g.k g.l=(dH v f g).v:=by
 unfold gp dH
 split <;> rfl
theorem si {v:Vl} {f g:Fd} (h0:0<=v.b) (h1:v.b<18446744073709551616):0<=(dH v f g).b/\(dH v f g).b<18446744073709551616:=by
 unfold dH
 split
 ·exact zC _ _ _ h0 h1
 ·exact⟨by decide,by decide⟩
def eA (a b:Tb) (k:Nat):Mv:=
 match b.m[k]? with
 |none=>⟨0,Vl.z⟩
 |some m=>
  if 0<=m.f then
   match a.m[m.f.toNat]? with
   |none=>⟨0,Vl.z⟩
   |some n=>if n.f<0 then⟨n.f,dH n.d ((b.o[m.f.toNat]?).getD Fd.z) ((b.n[k]?).getD Fd.z)⟩ else n
  else m
def eD (a b:Tb) (k:Nat):List Mv:=(List.range k).map (eA a b)
theorem ux (a b:Tb) (k:Nat):eD a b (k+1)=eD a b k++[eA a b k]:=by simp[eD,List.range_succ]
theorem iJ (a b:Tb) (k:Nat):(eD a b k).length=k:=by simp[eD]
def bS (a b:Tb):Tb:=⟨a.o,b.n,eD a b b.m.length⟩
def gV (a b:Tb):Bool:=ar a && ar b && bh a.n b.o
def az (a b:Tb):Int:=if gV a b=true/\ar (bS a b)=true then 0 else 70
def bv (a b:Tb):Tb:=if az a b=0 then bS a b else Tb.z
theorem zD {k l l2:Int} (h:aU k l 11 l2=true):k=11:=by
 unfold aU at h
 split at h
 ·cases h
 ·split at h
  ·assumption
  ·split at h
   ·simp[eK] at h
   ·split at h
    ·simp[eK] at h
    ·split at h
     ·simp[eK] at h
     ·simp at h
theorem kh {o:List Fd} {g:Fd} {d:Vl}:eW o g ⟨-1,d⟩=(aM d.k d.b d.t g.k g.l && (decide (g.k≠11) || decide (d.b=0))):=by rw[eW,Xz rfl]
theorem gD {o:List Fd} {g:Fd} {m:Mv} (h:¬m.f=-1) (hok:eW o g m=true):0<=m.f/\m.d=Vl.z/\∃f,o[m.f.toNat]?=some f/\aU f.k f.l g.k g.l=true:=by
 rw[eW,Xy h,Qz,Y8] at hok
 obtain⟨h0,h1⟩:=hok
 cases hf:o[m.f.toNat]? with
 |none=>rw[hf] at h1;cases h1
 |some f=>
  rw[hf] at h1
  simp only[Qz,Y8] at h1
  exact⟨h0,h1.1,f,rfl,h1.2⟩
theorem wO {a b:Tb} (hw:iG a.m) (ha:ar a=true) (hb:ar b=true) (hs:a.n=b.o) {k:Nat} {m:Mv} {g:Fd} (hm:b.m[k]?=some m) (hg:b.n[k]?=some g):
 (m.f<0/\eA a b k=m/\eu (bS a b) k=true)\/
 (0<=m.f/\∃n f,a.m[m.f.toNat]?=some n/\a.n[m.f.toNat]?=some f/\b.o[m.f.toNat]?=some f/\
   ((n.f<0/\eA a b k=⟨n.f,dH n.d f g⟩/\eu (bS a b) k=true)\/
    (0<=n.f/\eA a b k=n/\∃h,a.o[n.f.toNat]?=some h/\eu (bS a b) k=aU h.k h.l g.k g.l))):=by
 obtain⟨_,_,ala,aok⟩:=ae.1 ha
 obtain⟨_,_,blb,bok⟩:=ae.1 hb
 have hk:k<b.m.length:=(J6.1 hm).1
 have hok:=bok k hk
 rw[dN hm hg] at hok
 have hat:eu (bS a b) k=eW a.o g (eA a b k):=dN (t:=bS a b) (by show(eD a b b.m.length)[k]?=_;simp[eD,hk]) hg
 by_cases hf:m.f=-1
 ·have e:eA a b k=m:=by unfold eA;rw[hm];simp only;rw[Xy (by omega)]
  refine .inl ⟨by omega,e,?_⟩
  rw[hat,e]
  obtain⟨mf,md⟩:=m
  obtain rfl:mf=-1:=hf
  rw[kh] at hok |-
  exact hok
 ·obtain⟨h0,hz,f,hbo,hcast⟩:=gD hf hok
  have hlt:m.f.toNat<b.o.length:=(J6.1 hbo).1
  have hlm:m.f.toNat<a.m.length:=by rw[ala,hs];exact hlt
  have hn:a.m[m.f.toNat]?=some (a.m[m.f.toNat]'hlm):=J4 hlm
  have haok:=aok _ hlm
  have han:a.n[m.f.toNat]?=some f:=by rw[hs];exact hbo
  rw[dN hn han] at haok
  obtain⟨w0,w1⟩:=hw _ (List.getElem_mem hlm)
  generalize a.m[m.f.toNat]'hlm=n at *
  refine .inr ⟨h0,n,f,hn,han,hbo,?_⟩
  by_cases hnf:n.f=-1
  ·have e:eA a b k=⟨n.f,dH n.d f g⟩:=by unfold eA;rw[hm];simp only;rw[Xz h0,hn];simp only;rw[Xz (by omega),hbo,hg];rfl
   refine .inl ⟨by omega,e,?_⟩
   rw[hat,e,hnf,kh]
   obtain⟨nf,nd⟩:=n
   obtain rfl:nf=-1:=hnf
   rw[kh,Qz] at haok
   obtain⟨hr,h11⟩:=haok
   have hcl:dH nd f g=⟨g.k,aw nd.b f.k g.k,gQ nd.t g.k g.l⟩:=by rw[dH,Xz ⟨hr,hcast⟩]
   show(aM (dH nd f g).k (dH nd f g).b (dH nd f g).t g.k g.l && (decide (g.k≠11) || decide ((dH nd f g).b=0)))=true
   rw[hcl]
   have hcr:=(nG (tx:=nd.t) w0 w1 hr hcast).1
   show(aM g.k (aw nd.b f.k g.k) (gQ nd.t g.k g.l) g.k g.l && (decide (g.k≠11) || decide (aw nd.b f.k g.k=0)))=true
   rw[hcr,Bool.true_and]
   by_cases hg11:g.k=11
   ·have hf11:f.k=11:=zD (k:=f.k) (l:=f.l) (l2:=g.l) (by rw[hg11] at hcast;exact hcast)
    rw[hg11,hf11]
    simp[hf11] at h11
    simp[aw,h11]
   ·simp[hg11]
  ·obtain⟨n0,nz,h,hao,_⟩:=gD hnf haok
   have e:eA a b k=n:=by unfold eA;rw[hm];simp only;rw[Xz h0,hn];simp only;rw[Xy (by omega)]
   refine .inr ⟨n0,e,h,hao,?_⟩
   rw[hat,e,eW,Xy hnf,hao]
   simp[n0,nz]
theorem lJ {a b:Tb}:gV a b=true↔ar a=true/\ar b=true/\a.n=b.o:=by
 simp[gV,bh,and_assoc]
theorem sy {a b:Tb} (h:gV a b=true):ar (bS a b)=decide (∀k,k<b.m.length->eu (bS a b) k=true):=by
 obtain⟨ha,hb,_⟩:=lJ.1 h
 obtain⟨a1,_,_,_⟩:=ae.1 ha
 obtain⟨_,b2,b3,_⟩:=ae.1 hb
 have e1:(bS a b).m.length=b.m.length:=iJ _ _ _
 rw[Qy,ae,Y8,e1]
 exact⟨fun h=>h.2.2.2,fun h=>⟨a1,b2,b3,h⟩⟩
theorem nO {a b:Tb} (h:az a b=0):gV a b=true/\ar (bS a b)=true/\bv a b=bS a b:=by
 have e:bv a b=bS a b:=by rw[bv,Xz h]
 unfold az at h
 split at h
 ·rename_i hh;exact⟨hh.1,hh.2,e⟩
 ·omega
theorem wL {a b:Tb} (ha:iG a.m) (hb:iG b.m) (k:Nat):iG (eD a b k):=by
 intro m hm
 simp only[eD,Vy] at hm
 obtain⟨j,_,rfl⟩:=hm
 unfold eA
 split
 ·exact⟨by decide,by decide⟩
 ·rename_i m hm
  split
  ·split
   ·exact⟨by decide,by decide⟩
   ·rename_i n hn
    obtain⟨w0,w1⟩:=ha n (J7 hn)
    split
    ·exact si w0 w1
    ·exact⟨w0,w1⟩
  ·exact hb m (J7 hm)
def pH (t:Tb):List Ch->Tb×Int
 |[]=>(t,0)
 |c :: r=>if dR t.n c=0 then(if az t (dy t.n c)=0 then pH (bv t (dy t.n c)) r else(Tb.z,70)) else(Tb.z,dR t.n c)
def gb (l:List Fd) (cs:List Ch):Tb×Int:=if aK l=true then pH (bA l) cs else(Tb.z,60)
def gm (b:Nat) (w:EQ) (A:EL) (cs:EO):Prop:=cs≠[]->∃ad,A=some ad/\ad.block<b/\∀j u,cs[j]?=some u->w.cell? (ad.add j)=some u
theorem gm.rd {b:Nat} {w:EQ} {A:EL} {cs:EO} (h:gm b w A cs):Rd w A cs:=fun hn=>by
 obtain⟨ad,e,_,hc⟩:=h hn;exact⟨ad,e,hc⟩
theorem gm.below {b:Nat} {w w1:EQ} {A:EL} {cs:EO} (h:gm b w A cs) (hb:Below b w w1):gm b w1 A cs:=fun hn=>by
 obtain⟨ad,e,hl,hc⟩:=h hn
 refine⟨ad,e,hl,fun j u hj=>(hb.cell ?_).trans (hc j u hj)⟩
 have:(ad.add j).block=ad.block:=by unfold Addr.add;split <;> rfl
 rw[this];exact hl
theorem gm.mk {w w1:EQ} {A:EL} {cs:EO} (h:Rd w A cs) (hb:Below w.heap.size w w1) {b:Nat} (hl:w.heap.size<=b):gm b w1 A cs:=fun hn=>by
 obtain⟨ad,e,hc⟩:=h.below hb hn
 obtain⟨ad',e',hc'⟩:=h hn
 rw[e] at e';cases e'
 refine⟨ad,e,?_,hc⟩
 cases cs with
 |nil=>exact absurd rfl hn
 |cons u r=>
  have h0:=World.block_lt_of_cell? w _ (hc' 0 u rfl)
  have:(ad.add 0).block=ad.block:=by unfold Addr.add;split <;> rfl
  rw[this] at h0;omega
def cO (b:Nat) (v:ER):Prop:=∀k,v.ownBlock=some k->k<b
theorem aN {w w1:EQ} {base:Nat} {e:ES} {size n:Nat} {v:ER} {xs:EO} (h:w.ownsRow base e size v n xs) (hk:∀g,v.ownBlock=some g->w1.heap[g]?=w.heap[g]?):w1.ownsRow base e size v n xs:=by
 obtain⟨h1,h2⟩:=h
 refine⟨h1,?_⟩
 rcases h2 with h2|⟨g,cap,cur,rfl,hg,hh,r⟩
 ·exact .inl h2
 ·exact .inr ⟨g,cap,cur,rfl,hg,(hk g (by simp[Value.ownBlock])).trans hh,r⟩
theorem iV {w w1:EQ} {base B:Nat} {e:ES} {size n:Nat} {v:ER} {xs:EO} (h:w.ownsRow base e size v n xs) (hl:cO B v) (hb:Below B w w1):w1.ownsRow base e size v n xs:=
 aN h fun g hg=>hb.block g (hl g hg)
theorem gm.own {w:EQ} {base b n m c:Nat} {e:ES} {size:Nat} {A:EL} {xs:EO} (h:w.ownsRow base e size (.slice A m c) n xs) (hl:cO b (.slice A m c)):gm b w A xs:=by
 obtain⟨A',c',e1,_,_,hr⟩:=aL h
 cases e1
 intro hn
 obtain⟨ad,rfl,hc⟩:=hr hn
 exact⟨ad,rfl,hl _ (by simp[Value.ownBlock]),hc⟩
theorem cO.mono {b b':Nat} {v:ER} (h:cO b v) (hb:b<=b'):cO b' v:=fun k hk=>by have:=h k hk;omega
theorem fx (A:EL) (c m:Nat) (l:List Fd) (hm:l.length=m) (w:EQ) (hA:Rd w A (aC l)) (hl:m<=4398046511104) (hlc:m<=c):
 Calls Tryz.prog 35 #[.slice A m c] w fun e w'=>∃B d,e=.returned (.slice B m d)/\m<=d/\w'.ownsRow w.heap.size 68 3 (.slice B m d) m (aC l)/\Below w.heap.size w w':=by
 subst hm
 refine(qO A c l w hA hl hlc).mono ?_
 rintro e w' ⟨v,rfl,ho,hb⟩
 obtain⟨B,d,rfl,hd,_,_⟩:=aL ho
 exact⟨B,d,rfl,hd,ho,hb⟩
theorem xa (A:EL) (c m:Nat) (l:List Fd) (hm:l.length=m) (hr:aK l=true) (w:EQ) (hA:Rd w A (aC l)) (hl:m<=9223372036854775807) (hc:m<=c):
 Calls Tryz.prog 45 #[.slice A m c] w fun e w'=>∃B d v2 v3 b1 b2,e=.returned (.agg #[.slice B m d,v2,v3])/\w.heap.size<=b1/\b1<=b2/\b2<=w'.heap.size/\gm b1 w' B (aC l)/\(∀ad,B=some ad->w.heap.size<=ad.block/\ad.block<b1)/\w'.ownsRow b1 68 3 v2 m (aC l)/\cO b2 v2/\w'.ownsRow b2 137 4 v3 m (aJ (kM m))/\Below w.heap.size w w':=by
 obtain⟨i0,hi,hz0,hz1,hz2⟩:=info_parts kB
 have h16:m<=16:=by rw[<-hm];exact(aQ hr).2
 have hb1:=aA (w:=w) (.cells #[.slice none 0 0,.slice none 0 0,.slice none 0 0] 96)
 have R:=aD.new w [.slice none 0 0,.slice none 0 0,.slice none 0 0] 96
 have HB:=hb1
 replace hA:=hA.below hb1
 have HM:=J0 hm
 have HR:=J0 hr
 have tok1:=Yz
 clear hm hr hb1
 go_enter Tryz.func45,Tryz.ntmps45
 go_wp2_with (first
  |(go_at_call 62;refine(bY A c m l HM.out true HR.out _ hA hl).mono ?_;rintro e W1 ⟨rfl,hb⟩;replace HB:=HB.trans (hb.mono HB.size);replace R:=R.below hb;replace hA:=hA.below hb;have hz1W:w.heap.size+1<=W1.heap.size:=R.lt;clear hb)
  |(have _t:=tok1;go_at_call 35;refine(fx A c m l HM.out _ hA (by omega) hc).mono ?_;rintro e W2 ⟨B,d,rfl,hd,own1,hb⟩;replace HB:=HB.trans (hb.mono HB.size);replace R:=R.below hb;replace hA:=hA.below hb;have hz12:=HB.size;have h12:=hb.size;clear hb tok1;have tok2:=Yz)
  |(have _t:=tok2;go_at_call 35;refine(fx A c m l HM.out _ hA (by omega) hc).mono ?_;rintro e W3 ⟨B2,d2,rfl,hd2,own2,hb3⟩;replace HB:=HB.trans (hb3.mono HB.size);replace R:=R.below hb3;clear hA tok2))
 have O:=aD.new W3 [.slice B m d,.slice B2 m d2,.slice none 0 0] 96
 have hb2:=aA (w:=W3) (.cells #[.slice B m d,.slice B2 m d2,.slice none 0 0] 96)
 have hzW:w.heap.size<W3.heap.size:=R.lt
 have h23:=hb3.size
 have lt1:cO W2.heap.size (.slice B m d):=aY own1
 have own1':=hQ (aG (aG own1 hb3) hb2) hz1W
 have own2':=aG own2 hb2
 have lt2:cO W3.heap.size (.slice B2 m d2):=aY own2
 have R0:=R.below hb2
 have HB0:=HB.trans (hb2.mono HB.size)
 clear hb2 HB R own1 own2 hb3
 go_loopw [4,16] (fun i j wr=>∃(k:Nat) (v:ER),k<=m/\j=.int .i64 k/\wr.ownsRow (W3.heap.size+1) 137 4 v k (aJ (kM k))/\aD wr W3.heap.size [.slice B m d,.slice B2 m d2,v] 96/\aD wr w.heap.size [.slice none 0 0,.slice none 0 0,.slice none 0 0] 96/\Below w.heap.size w wr/\W3.heap.size<wr.heap.size/\wr.ownsRow (w.heap.size+1) 68 3 (.slice B m d) m (aC l)/\wr.ownsRow W2.heap.size 68 3 (.slice B2 m d2) m (aC l)) (fun _ i _=>m - (intOf i).toNat)
 case atStart=>exact⟨0,_,by omega,rfl,ai _ _ _ _,O,R0,HB0,by simp,own1',own2'⟩
 case round=>
  obtain⟨k,v,hk,rfl,hown,O,R,HB,hz,own1,own2⟩:=hrel
  clear R0 HB0
  by_cases hlt:k<m
  ·have HK:=J0 (du k)
   obtain⟨k0,k1,k2,f0,f1,f2⟩:=(O.below (aA (w:=wr) (.cells #[.int .i64 k,.int .i64 0,.int .u64 0,.string ⟨#[]⟩] 137))).f3
   obtain⟨q0,q1,q2,p0,p1,p2⟩:=O.f3
   go_wp2_with (at_builtin;refine Y5 _ rfl _ _ 94 rfl (W3.heap.size+1) 137 i0 (.agg #[.int .i64 0,.int .i64 0,.int .u64 0,.string ⟨#[]⟩]) 4 40 Tryz.underlying94 hi hz0 hz1 hz2 rfl (by decide) _ _ _ rfl (hown.alloc _) ⟨wr.heap.size,0,none⟩ 1 1 [.int .i64 k,.int .i64 0,.int .u64 0,.string ⟨#[]⟩] rfl rfl ?c1 ?c2 ?c3 ?c4 ?c5 ?_)
   case c1=>exact eR _ _ _ _ _ _
   case c2=>intro u hu;simp at hu;rcases hu with rfl|rfl|rfl|rfl <;> rfl
   case c3=>simp only[maxLen];omega
   case c4=>omega
   case c5=>simp;omega
   intro v' w3 hown' hgrow _
   have BG:Below (W3.heap.size+1) wr w3:=((Jy _ _).alloc (by omega) (.cells #[.int .i64 k,.int .i64 0,.int .u64 0,.string ⟨#[]⟩] 137)).grown hgrow (by simp;omega) (fun q hq=>aF hown q hq)
   have O3:aD w3 W3.heap.size [.slice B m d,.slice B2 m d2,v] 96:=(BG.block _ (by omega)).trans O
   have R3:aD w3 w.heap.size [.slice none 0 0,.slice none 0 0,.slice none 0 0] 96:=(BG.block _ (by omega)).trans R
   have HB3:=HB.trans (BG.mono (by omega))
   have hown3:w3.ownsRow (W3.heap.size+1) 137 4 v' (k+1) (aJ (kM (k+1))):=ag hown' (by simp) (by rw[HK.out,bu];rfl)
   have hz3:=BG.size
   obtain⟨B',c',rfl,_,_,_⟩:=aL hown3
   clear hown' hgrow hown k0 k1 k2 f0 f1 f2 q0 q1 q2 p0 p1 p2
   obtain⟨k0,k1,k2,f0,f1,f2⟩:=O3.f3
   go_wp2
   go_roundw
   case rel=>
    have BS:Below W3.heap.size wr (w3.setCell ⟨W3.heap.size,2,none⟩ (.slice B' (k+1) c')):=(BG.mono (Nat.le_succ _)).setCell (J9 _) _
    exact⟨k+1,_,by omega,by go_num,Y3 hown3 (by show _<_;simp) _,aI O3 2 _,(J5 _ _ _ _ (by show _≠_;simp;omega)).trans R3,HB3.setCell (by show _<=_;simp;omega) _,by simp;omega,iV own1 lt1 (BS.mono h23),iV own2 lt2 BS⟩
   case measure=>simp[intOf];omega
  ·obtain rfl:k=m:=by omega
   obtain⟨B',c',rfl,_,_,_⟩:=aL hown
   obtain⟨k0,k1,k2,f0,f1,f2⟩:=O.f3
   obtain⟨q0,q1,q2,p0,p1,p2⟩:=R.f3
   go_wp2
   refine Xx (v:=.agg #[.slice B k d,.slice B2 k d2,.slice B' k c']) (by simp[results,Tryz.results45,go_sem, *];done) rfl ⟨B,d,_,_,W2.heap.size,W3.heap.size,rfl,hz12,h23,?_,?_,?_,?_,lt2,?_,?_⟩
   ·simp;omega
   ·refine gm.own (Y3 (Y3 (Y3 own1 ?_ _) ?_ _) ?_ _) lt1 <;> (show _<_;simp)
   ·intro ad e;have:=aF own1 ad.block (by rw[e];rfl);have:=lt1 ad.block (by rw[e];rfl);omega
   ·refine Y3 (Y3 (Y3 own2 ?_ _) ?_ _) ?_ _ <;> (show _<_;simp;omega)
   ·refine hQ (Y3 (Y3 (Y3 hown ?_ _) ?_ _) ?_ _) (Nat.le_succ _) <;> (show _<_;simp;omega)
   ·(repeat (first|exact HB|refine J8 ?_ (by dsimp only;omega) _|refine Jk ?_ (by have:=HB.size;(try simp) <;> omega) _|apply Jv))
theorem dY.new (w:EQ) (m:Mv) (T:ES):dY (w.alloc (.cells #[.int .i64 m.f,.int .i64 m.d.k,.int .u64 m.d.b,.string m.d.t] T)) w.heap.size m:=⟨bD _ _ _ _ _ rfl,bD _ _ _ _ _ rfl,bD _ _ _ _ _ rfl,bD _ _ _ _ _ rfl⟩
def gL (fs:List Fd):Prop:=∀f∈fs,f.s.size<=9223372036854775807
theorem CB {d:Vl} (hz:¬d=Vl.z):(d.k == 0)=false\/((d.k == 0)=true/\(d.b == 0)=false)\/((d.k == 0)=true/\(d.b == 0)=true/\(d.t.toList == [])=false):=by
 rw[<-ByteArray.toList_nil_beq d.t]
 obtain⟨dk,db,dt⟩:=d
 by_cases e1:dk=0
 ·by_cases e2:db=0
  ·refine .inr (.inr ⟨by simp[e1],by simp[e2],?_⟩)
   rw[fU]
   exact Y9 fun e3=>hz (by have e3:dt=_:=e3;show(⟨dk,db,dt⟩:Vl)=Vl.z;rw[e1,e2,e3];rfl)
  ·exact .inr (.inl ⟨by simp[e1],by simp[e2]⟩)
 ·exact .inl (by simp[e1])
theorem eU (t:Tb) (Ao An Am:EL) (co cn cm no nn nm:Nat) (hno:t.o.length=no) (hnn:t.n.length=nn) (hnm:t.m.length=nm) (l0:no<=9223372036854775807) (l1:nn<=9223372036854775807) (l2:nm<=9223372036854775807) (hw:iG t.m) (so:gL t.o) (sn:gL t.n)
 (w:EQ) (ao:Rd w Ao (aC t.o)) (an:Rd w An (aC t.n)) (am:Rd w Am (aJ t.m)):
 Calls Tryz.prog 79 #[.agg #[.slice Ao no co,.slice An nn cn,.slice Am nm cm]] w fun e w'=>e=.returned (.bool (ar t))/\Below w.heap.size w w':=by
 obtain⟨r,hr⟩:∃r,ar t=r:=⟨_,rfl⟩
 obtain⟨r1,hr1⟩:∃r,aK t.o=r:=⟨_,rfl⟩
 obtain⟨r2,hr2⟩:∃r,aK t.n=r:=⟨_,rfl⟩
 have hrr:r=(r1 && r2 && decide (nm=nn) && decide (∀k,k<nm->eu t k=true)):=by rw[<-hr,<-hr1,<-hr2,<-hnm,<-hnn,ar]
 rw[hr]
 have hb1:=aA (w:=w) (.cells #[.slice Ao no co,.slice An nn cn,.slice Am nm cm] 110)
 have O:=fB.new w (.slice Ao no co) (.slice An nn cn) (.slice Am nm cm) 110
 have HB:=hb1
 replace ao:=ao.below hb1
 replace an:=an.below hb1
 replace am:=am.below hb1
 obtain⟨O0,O1,O2⟩:=id O
 have HR1:=J0 hr1
 have HR2:=J0 hr2
 have HRR:=J0 hrr
 have HNO:=J0 hno
 have HNN:=J0 hnn
 have HNM:=J0 hnm
 have HW:=J0 hw
 have SO:=J0 so
 have SN:=J0 sn
 have tok1:=Yz
 clear hr hr1 hr2 hrr hno hnn hnm hb1 hw so sn
 cases r1
 ·obtain rfl:r=false:=by rw[HRR.out];rfl
  go_enter Tryz.func79,Tryz.ntmps79
  go_wp2_with (go_at_call 77;refine(ab Ao co no t.o HNO.out false HR1.out _ ao l0 SO.out).mono ?_;rintro e wM ⟨rfl,hb⟩;replace HB:=HB.trans (hb.mono HB.size);replace O:=O.below hb;obtain⟨O0,O1,O2⟩:=id O;clear hb)
  go_ret
  exact⟨rfl,HB⟩
 cases r2
 ·obtain rfl:r=false:=by rw[HRR.out];rfl
  go_enter Tryz.func79,Tryz.ntmps79
  go_wp2_with (first
   |(have _t:=tok1;go_at_call 77;refine(ab Ao co no t.o HNO.out true HR1.out _ ao l0 SO.out).mono ?_;rintro e wM ⟨rfl,hb⟩;replace HB:=HB.trans (hb.mono HB.size);replace an:=an.below hb;replace am:=am.below hb;replace O:=O.below hb;obtain⟨O0,O1,O2⟩:=id O;clear hb tok1;have tok2:=Yz)
   |(have _t:=tok2;go_at_call 77;refine(ab An cn nn t.n HNN.out false HR2.out _ an l1 SN.out).mono ?_;rintro e wM ⟨rfl,hb⟩;replace HB:=HB.trans (hb.mono HB.size);replace O:=O.below hb;obtain⟨O0,O1,O2⟩:=id O;clear hb tok2;have tok3:=Yz))
  go_ret
  exact⟨rfl,HB⟩
 by_cases hlen:nm=nn
 ·have hz:((nm:Int) != (nn:Int))=false:=by rw[hlen];simp
  have HL:=J0 hlen
  clear hlen
  go_enter Tryz.func79,Tryz.ntmps79
  go_wp2_with (first
   |(have _t:=tok1;go_at_call 77;refine(ab Ao co no t.o HNO.out true HR1.out _ ao l0 SO.out).mono ?_;rintro e wM ⟨rfl,hb⟩;replace HB:=HB.trans (hb.mono HB.size);replace ao:=ao.below hb;replace an:=an.below hb;replace am:=am.below hb;replace O:=O.below hb;obtain⟨O0,O1,O2⟩:=id O;clear hb tok1;have tok2:=Yz)
   |(have _t:=tok2;go_at_call 77;refine(ab An cn nn t.n HNN.out true HR2.out _ an l1 SN.out).mono ?_;rintro e wM ⟨rfl,hb⟩;replace HB:=HB.trans (hb.mono HB.size);replace ao:=ao.below hb;replace an:=an.below hb;replace am:=am.below hb;replace O:=O.below hb;obtain⟨O0,O1,O2⟩:=id O;clear hb tok2;have tok3:=Yz))
  rename EQ=>W1
  have ao0:=ao
  have an0:=an
  have am0:=am
  have O':=O
  have HB0:=HB
  clear ao an am O HB
  go_loopw [3,4] (fun i _ wr=>∃k:Nat,k<=nm/\i=.int .i64 k/\Below w.heap.size w wr/\Rd wr Ao (aC t.o)/\Rd wr An (aC t.n)/\Rd wr Am (aJ t.m)/\fB wr w.heap.size (.slice Ao no co) (.slice An nn cn) (.slice Am nm cm)/\Hid (∀j,j<k->eu t j=true)) (fun i _ _=>nm - (intOf i).toNat)
  case atStart=>exact⟨0,by omega,rfl,HB0,ao0,an0,am0,O',J0 (fun j hj=>by omega)⟩
  case round=>
   obtain⟨k,hk,rfl,HB,ao,an,am,O,hall⟩:=hrel
   clear HB0 ao0 an0 am0 O' O0 O1 O2
   obtain⟨O0,O1,O2⟩:=id O
   by_cases hlt:k<nm
   ·obtain⟨x,hx⟩:∃x,t.m[k]?=some x:=⟨_,J4 (by rw[HNM.out];exact hlt)⟩
    have hln:k<nn:=by have:=HL.out;omega
    obtain⟨g,hg⟩:∃y,t.n[k]?=some y:=⟨_,J4 (by rw[HNN.out];exact hln)⟩
    have hat:eu t k=eW t.o g x:=by simp[eu,hx,hg]
    obtain⟨b0,b1⟩:=HW.out x (J7 hx)
    obtain⟨s,hs⟩:∃s,eW t.o g x=s:=⟨_,rfl⟩
    have HX:=J0 hx
    have HG:=J0 hg
    have HS:=J0 hs
    have HAT:=J0 (hat.trans hs)
    obtain⟨ad,ea,c0,c1,c2,c3⟩:=am.mv hx
    obtain⟨bd,eb,_,_,_⟩:=an.fld hg
    have hno:s=false->r=false:=fun hs=>by
     have hn:¬∀j,j<nm->eu t j=true:=fun h=>by have:=h k hlt;rw[HAT.out,hs] at this;cases this
     rw[HRR.out,Y9 hn];simp
    have hyes:s=true->Hid (∀j,j<k+1->eu t j=true):=fun hs=>J0 (fun j hj=>by
     rcases(by omega:j<k\/j=k) with h|rfl
     ·exact hall.out j h
     ·rw[HAT.out];exact hs)
    have HNOT:=J0 hno
    have HYES:=J0 hyes
    have hi0:(0:Int)<=(k:Int):=by omega
    have hi1:(k:Int)<(nn:Int):=by omega
    have hi2:(k:Int)<(nm:Int):=by omega
    clear hx hg hat hs hno hyes hall
    have M:=dY.new wr x 157
    have hbm:=aA (w:=wr) (.cells #[.int .i64 x.f,.int .i64 x.d.k,.int .u64 x.d.b,.string x.d.t] 157)
    have HBo:=HB
    have Oo:=O
    replace HB:=HB.trans (hbm.mono HB.size)
    replace ao:=ao.below hbm
    replace an:=an.below hbm
    replace am:=am.below hbm
    replace O:=O.below hbm
    obtain⟨M0,M1,M2,M3⟩:=id M
    obtain⟨P0,P1,P2⟩:=id O
    subst ea eb
    clear hbm
    by_cases hlow:x.f< -1
    ·have h1:decide (x.f< -1)=true:=by simpa using hlow
     obtain rfl:s=false:=by rw[<-HS.out,eW,Xy (by omega),Y9 (by omega)];rfl
     obtain rfl:=HNOT.out rfl
     go_wp2
     go_ret
     exact⟨rfl,HB⟩
    have h1:decide (x.f< -1)=false:=by simpa using hlow
    by_cases hbig:(no:Int)<=x.f
    ·have h2:decide ((no:Int)<=x.f)=true:=by simpa using hbig
     obtain rfl:s=false:=by rw[<-HS.out,eW,Xy (by omega),Xv (by rw[HNO.out];omega)];simp
     obtain rfl:=HNOT.out rfl
     go_wp2
     go_ret
     exact⟨rfl,HB⟩
    have h2:decide ((no:Int)<=x.f)=false:=by simpa using hbig
    by_cases hf:x.f=-1
    ·have e1:(x.f == -1)=true:=by simp[hf]
     have e2:decide ((0:Int)<=x.f)=false:=by simp[hf]
     have hok:s=(aM x.d.k x.d.b x.d.t g.k g.l && (decide (g.k≠11) || decide (x.d.b=0))):=by rw[<-HS.out,eW,Xz hf]
     obtain⟨q,hq⟩:∃y,aM x.d.k x.d.b x.d.t g.k g.l=y:=⟨_,rfl⟩
     rw[hq] at hok
     have HQ:=J0 hq
     clear hq hf hlow hbig
     go_upto_region 9 with fail
     clear M0 M1 M2 M3 P0 P1 P2 O0 O1 O2 c0 c1 c2 c3
     cases q
     ·obtain rfl:s=false:=hok
      obtain rfl:=HNOT.out rfl
      refine RW.start (fun w'=>Below w.heap.size w w'/\dY w' wr.heap.size x/\fB w' w.heap.size (.slice Ao no co) (.slice (some bd) nn cn) (.slice (some ad) nm cm)/\Rd w' Ao (aC t.o)/\Rd w' (some bd) (aC t.n)/\Rd w' (some ad) (aJ t.m)) (by kernel_rfl) (by kernel_rfl) ⟨HB.drew,M,O,ao,an,am⟩ ?_
      clear HB M O ao an am HBo Oo
      repeat (first
       |(refine' RW.val (by rfl) ?_ ?_;rotate_left;(focus (intro w' hS;obtain⟨HB,M,O,ao,an,am⟩:=hS;obtain⟨M0,M1,M2,M3⟩:=id M;obtain⟨O0,O1,O2⟩:=id O;obtain⟨_,eb,d0,d1,d2⟩:=an.fld HG.out;cases eb;go_simp;rfl));simp only[Act.put,J1,J3,J2])
       |(refine RW.off (by rfl) ?_;simp only[Act.put,J1,J3,J2])
       |(refine' RW.call (by rfl) ?_ ?_ ?_
         rotate_left 3
         (focus (intro w' hS;obtain⟨HB,M,O,ao,an,am⟩:=hS;obtain⟨M0,M1,M2,M3⟩:=id M;obtain⟨O0,O1,O2⟩:=id O;obtain⟨_,eb,d0,d1,d2⟩:=an.fld HG.out;cases eb;go_simp;exact⟨rfl,rfl⟩))
         (focus
           intro w' hS
           obtain⟨HB,M,O,ao,an,am⟩:=hS;obtain⟨M0,M1,M2,M3⟩:=id M;obtain⟨O0,O1,O2⟩:=id O;obtain⟨_,eb,d0,d1,d2⟩:=an.fld HG.out;cases eb
           first
            |(refine(aq x.d.k x.d.b x.d.t g.s g.k g.l b0 b1 false HQ.out _).mono ?_;rintro e w1 ⟨rfl,hb⟩;exact⟨rfl,⟨(aB HB hb),(M.below hb),(O.below hb),(ao.below hb),(an.below hb),(am.below hb)⟩⟩))
         simp only[Act.put,J1,J3,J2]))
      refine RW.done (fun w' hS=>?_)
      obtain⟨HB,M,O,ao,an,am⟩:=hS;obtain⟨M0,M1,M2,M3⟩:=id M;obtain⟨O0,O1,O2⟩:=id O;obtain⟨_,eb,d0,d1,d2⟩:=an.fld HG.out;cases eb
      go_wp2
      go_ret
      exact⟨rfl,HB⟩
     ·by_cases hk11:g.k=11
      ·have k1:(g.k == 11)=true:=by simp[hk11]
       by_cases hb0:x.d.b=0
       ·have kb:(x.d.b != 0)=false:=by simp[hb0]
        obtain rfl:s=true:=by rw[hok];simp[hb0]
        have hall2:=HYES.out rfl
        clear hok hb0 hk11
        refine RW.start (fun w'=>Below w.heap.size w w'/\dY w' wr.heap.size x/\fB w' w.heap.size (.slice Ao no co) (.slice (some bd) nn cn) (.slice (some ad) nm cm)/\Rd w' Ao (aC t.o)/\Rd w' (some bd) (aC t.n)/\Rd w' (some ad) (aJ t.m)) (by kernel_rfl) (by kernel_rfl) ⟨HB.drew,M,O,ao,an,am⟩ ?_
        clear HB M O ao an am HBo Oo
        repeat (first
         |(refine' RW.val (by rfl) ?_ ?_;rotate_left;(focus (intro w' hS;obtain⟨HB,M,O,ao,an,am⟩:=hS;obtain⟨M0,M1,M2,M3⟩:=id M;obtain⟨O0,O1,O2⟩:=id O;obtain⟨_,eb,d0,d1,d2⟩:=an.fld HG.out;cases eb;go_simp;rfl));simp only[Act.put,J1,J3,J2])
         |(refine RW.off (by rfl) ?_;simp only[Act.put,J1,J3,J2])
         |(refine' RW.call (by rfl) ?_ ?_ ?_
           rotate_left 3
           (focus (intro w' hS;obtain⟨HB,M,O,ao,an,am⟩:=hS;obtain⟨M0,M1,M2,M3⟩:=id M;obtain⟨O0,O1,O2⟩:=id O;obtain⟨_,eb,d0,d1,d2⟩:=an.fld HG.out;cases eb;go_simp;exact⟨rfl,rfl⟩))
           (focus
             intro w' hS
             obtain⟨HB,M,O,ao,an,am⟩:=hS;obtain⟨M0,M1,M2,M3⟩:=id M;obtain⟨O0,O1,O2⟩:=id O;obtain⟨_,eb,d0,d1,d2⟩:=an.fld HG.out;cases eb
             first
              |(refine(aq x.d.k x.d.b x.d.t g.s g.k g.l b0 b1 true HQ.out _).mono ?_;rintro e w1 ⟨rfl,hb⟩;exact⟨rfl,⟨(aB HB hb),(M.below hb),(O.below hb),(ao.below hb),(an.below hb),(am.below hb)⟩⟩))
           simp only[Act.put,J1,J3,J2]))
        refine RW.done (fun w' hS=>?_)
        obtain⟨HB,M,O,ao,an,am⟩:=hS;obtain⟨M0,M1,M2,M3⟩:=id M;obtain⟨O0,O1,O2⟩:=id O;obtain⟨_,eb,d0,d1,d2⟩:=an.fld HG.out;cases eb
        go_upto_region 11 with fail
        refine RW.start (fun w'=>Below w.heap.size w w'/\dY w' wr.heap.size x/\fB w' w.heap.size (.slice Ao no co) (.slice (some bd) nn cn) (.slice (some ad) nm cm)/\Rd w' Ao (aC t.o)/\Rd w' (some bd) (aC t.n)/\Rd w' (some ad) (aJ t.m)) (by kernel_rfl) (by kernel_rfl) ⟨HB.drew,M,O,ao,an,am⟩ ?_
        clear HB M O ao an am
        repeat (first
         |(refine' RW.val (by rfl) ?_ ?_;rotate_left;(focus (intro w' hS;obtain⟨HB,M,O,ao,an,am⟩:=hS;obtain⟨M0,M1,M2,M3⟩:=id M;obtain⟨O0,O1,O2⟩:=id O;go_simp;rfl));simp only[Act.put,J1,J3,J2])
         |(refine RW.off (by rfl) ?_;simp only[Act.put,J1,J3,J2]))
        refine RW.done (fun w' hS=>?_)
        obtain⟨HB,M,O,ao,an,am⟩:=hS;obtain⟨M0,M1,M2,M3⟩:=id M;obtain⟨O0,O1,O2⟩:=id O
        go_wp2
        go_roundw
        case rel=>exact⟨k+1,by omega,by go_num,HB,ao,an,am,O,hall2⟩
        case measure=>simp[intOf];omega
       ·have kb:(x.d.b != 0)=true:=by simp[hb0]
        obtain rfl:s=false:=by rw[hok];simp[hb0,hk11]
        obtain rfl:=HNOT.out rfl
        clear hok hb0 hk11
        refine RW.start (fun w'=>Below w.heap.size w w'/\dY w' wr.heap.size x/\fB w' w.heap.size (.slice Ao no co) (.slice (some bd) nn cn) (.slice (some ad) nm cm)/\Rd w' Ao (aC t.o)/\Rd w' (some bd) (aC t.n)/\Rd w' (some ad) (aJ t.m)) (by kernel_rfl) (by kernel_rfl) ⟨HB.drew,M,O,ao,an,am⟩ ?_
        clear HB M O ao an am HBo Oo
        repeat (first
         |(refine' RW.val (by rfl) ?_ ?_;rotate_left;(focus (intro w' hS;obtain⟨HB,M,O,ao,an,am⟩:=hS;obtain⟨M0,M1,M2,M3⟩:=id M;obtain⟨O0,O1,O2⟩:=id O;obtain⟨_,eb,d0,d1,d2⟩:=an.fld HG.out;cases eb;go_simp;rfl));simp only[Act.put,J1,J3,J2])
         |(refine RW.off (by rfl) ?_;simp only[Act.put,J1,J3,J2])
         |(refine' RW.call (by rfl) ?_ ?_ ?_
           rotate_left 3
           (focus (intro w' hS;obtain⟨HB,M,O,ao,an,am⟩:=hS;obtain⟨M0,M1,M2,M3⟩:=id M;obtain⟨O0,O1,O2⟩:=id O;obtain⟨_,eb,d0,d1,d2⟩:=an.fld HG.out;cases eb;go_simp;exact⟨rfl,rfl⟩))
           (focus
             intro w' hS
             obtain⟨HB,M,O,ao,an,am⟩:=hS;obtain⟨M0,M1,M2,M3⟩:=id M;obtain⟨O0,O1,O2⟩:=id O;obtain⟨_,eb,d0,d1,d2⟩:=an.fld HG.out;cases eb
             first
              |(refine(aq x.d.k x.d.b x.d.t g.s g.k g.l b0 b1 true HQ.out _).mono ?_;rintro e w1 ⟨rfl,hb⟩;exact⟨rfl,⟨(aB HB hb),(M.below hb),(O.below hb),(ao.below hb),(an.below hb),(am.below hb)⟩⟩))
           simp only[Act.put,J1,J3,J2]))
        refine RW.done (fun w' hS=>?_)
        obtain⟨HB,M,O,ao,an,am⟩:=hS;obtain⟨M0,M1,M2,M3⟩:=id M;obtain⟨O0,O1,O2⟩:=id O;obtain⟨_,eb,d0,d1,d2⟩:=an.fld HG.out;cases eb
        go_wp2
        go_ret
        exact⟨rfl,HB⟩
      ·have k1:(g.k == 11)=false:=by simp[hk11]
       obtain rfl:s=true:=by rw[hok];simp[hk11]
       have hall2:=HYES.out rfl
       clear hok hk11
       refine RW.start (fun w'=>Below w.heap.size w w'/\dY w' wr.heap.size x/\fB w' w.heap.size (.slice Ao no co) (.slice (some bd) nn cn) (.slice (some ad) nm cm)/\Rd w' Ao (aC t.o)/\Rd w' (some bd) (aC t.n)/\Rd w' (some ad) (aJ t.m)) (by kernel_rfl) (by kernel_rfl) ⟨HB.drew,M,O,ao,an,am⟩ ?_
       clear HB M O ao an am HBo Oo
       repeat (first
        |(refine' RW.val (by rfl) ?_ ?_;rotate_left;(focus (intro w' hS;obtain⟨HB,M,O,ao,an,am⟩:=hS;obtain⟨M0,M1,M2,M3⟩:=id M;obtain⟨O0,O1,O2⟩:=id O;obtain⟨_,eb,d0,d1,d2⟩:=an.fld HG.out;cases eb;go_simp;rfl));simp only[Act.put,J1,J3,J2])
        |(refine RW.off (by rfl) ?_;simp only[Act.put,J1,J3,J2])
        |(refine' RW.call (by rfl) ?_ ?_ ?_
          rotate_left 3
          (focus (intro w' hS;obtain⟨HB,M,O,ao,an,am⟩:=hS;obtain⟨M0,M1,M2,M3⟩:=id M;obtain⟨O0,O1,O2⟩:=id O;obtain⟨_,eb,d0,d1,d2⟩:=an.fld HG.out;cases eb;go_simp;exact⟨rfl,rfl⟩))
          (focus
            intro w' hS
            obtain⟨HB,M,O,ao,an,am⟩:=hS;obtain⟨M0,M1,M2,M3⟩:=id M;obtain⟨O0,O1,O2⟩:=id O;obtain⟨_,eb,d0,d1,d2⟩:=an.fld HG.out;cases eb
            first
             |(refine(aq x.d.k x.d.b x.d.t g.s g.k g.l b0 b1 true HQ.out _).mono ?_;rintro e w1 ⟨rfl,hb⟩;exact⟨rfl,⟨(aB HB hb),(M.below hb),(O.below hb),(ao.below hb),(an.below hb),(am.below hb)⟩⟩))
          simp only[Act.put,J1,J3,J2]))
       refine RW.done (fun w' hS=>?_)
       obtain⟨HB,M,O,ao,an,am⟩:=hS;obtain⟨M0,M1,M2,M3⟩:=id M;obtain⟨O0,O1,O2⟩:=id O;obtain⟨_,eb,d0,d1,d2⟩:=an.fld HG.out;cases eb
       go_upto_region 11 with fail
       refine RW.start (fun w'=>Below w.heap.size w w'/\dY w' wr.heap.size x/\fB w' w.heap.size (.slice Ao no co) (.slice (some bd) nn cn) (.slice (some ad) nm cm)/\Rd w' Ao (aC t.o)/\Rd w' (some bd) (aC t.n)/\Rd w' (some ad) (aJ t.m)) (by kernel_rfl) (by kernel_rfl) ⟨HB.drew,M,O,ao,an,am⟩ ?_
       clear HB M O ao an am
       repeat (first
        |(refine' RW.val (by rfl) ?_ ?_;rotate_left;(focus (intro w' hS;obtain⟨HB,M,O,ao,an,am⟩:=hS;obtain⟨M0,M1,M2,M3⟩:=id M;obtain⟨O0,O1,O2⟩:=id O;go_simp;rfl));simp only[Act.put,J1,J3,J2])
        |(refine RW.off (by rfl) ?_;simp only[Act.put,J1,J3,J2]))
       refine RW.done (fun w' hS=>?_)
       obtain⟨HB,M,O,ao,an,am⟩:=hS;obtain⟨M0,M1,M2,M3⟩:=id M;obtain⟨O0,O1,O2⟩:=id O
       go_wp2
       go_roundw
       case rel=>exact⟨k+1,by omega,by go_num,HB,ao,an,am,O,hall2⟩
       case measure=>simp[intOf];omega
    ·have e1:(x.f == -1)=false:=by simp[hf]
     have e2:decide ((0:Int)<=x.f)=true:=by simp;omega
     have hxp:(0:Int)<=x.f:=by omega
     have hxl:x.f<(no:Int):=by omega
     obtain⟨f,hof⟩:∃f,t.o[x.f.toNat]?=some f:=⟨_,J4 (by rw[HNO.out];omega)⟩
     have hok:s=(decide (x.d=Vl.z) && aU f.k f.l g.k g.l):=by rw[<-HS.out,eW,Xy hf,hof,Yx hxp];rfl
     obtain⟨od,eo,_,_,_⟩:=ao.fld hof
     subst eo
     have HF:=J0 hof
     clear hof hf hlow hbig
     go_upto_region 9 with fail
     clear M0 M1 M2 M3 P0 P1 P2 O0 O1 O2 c0 c1 c2 c3
     refine RW.start (fun w'=>Below w.heap.size w w'/\dY w' wr.heap.size x/\fB w' w.heap.size (.slice (some od) no co) (.slice (some bd) nn cn) (.slice (some ad) nm cm)/\Rd w' (some od) (aC t.o)/\Rd w' (some bd) (aC t.n)/\Rd w' (some ad) (aJ t.m)) (by kernel_rfl) (by kernel_rfl) ⟨HB.drew,M,O,ao,an,am⟩ ?_
     clear HB M O ao an am HBo Oo
     repeat (first
      |(refine' RW.val (by rfl) ?_ ?_;rotate_left;(focus (intro w' hS;obtain⟨HB,M,O,ao,an,am⟩:=hS;obtain⟨M0,M1,M2,M3⟩:=id M;obtain⟨O0,O1,O2⟩:=id O;go_simp;rfl));simp only[Act.put,J1,J3,J2])
      |(refine RW.off (by rfl) ?_;simp only[Act.put,J1,J3,J2]))
     refine RW.done (fun w' hS=>?_)
     obtain⟨HB,M,O,ao,an,am⟩:=hS;obtain⟨M0,M1,M2,M3⟩:=id M;obtain⟨O0,O1,O2⟩:=id O
     go_upto_region 11 with fail
     by_cases hz:x.d=Vl.z
     ·have z1:x.d.k=0:=by rw[hz];rfl
      have z2:x.d.b=0:=by rw[hz];rfl
      have z3:x.d.t=⟨#[]⟩:=by rw[hz];rfl
      obtain⟨q,hq⟩:∃y,aU f.k f.l g.k g.l=y:=⟨_,rfl⟩
      rw[hq,Yx hz] at hok
      have HC:=J0 hq
      clear hq hz
      cases q
      ·obtain rfl:s=false:=hok
       obtain rfl:=HNOT.out rfl
       refine RW.start (fun w'=>Below w.heap.size w w'/\dY w' wr.heap.size x/\fB w' w.heap.size (.slice (some od) no co) (.slice (some bd) nn cn) (.slice (some ad) nm cm)/\Rd w' (some od) (aC t.o)/\Rd w' (some bd) (aC t.n)/\Rd w' (some ad) (aJ t.m)) (by kernel_rfl) (by kernel_rfl) ⟨HB.drew,M,O,ao,an,am⟩ ?_
       clear HB M O ao an am
       repeat (first
        |(refine' RW.val (by rfl) ?_ ?_;rotate_left;(focus (intro w' hS;obtain⟨HB,M,O,ao,an,am⟩:=hS;obtain⟨M0,M1,M2,M3⟩:=id M;obtain⟨O0,O1,O2⟩:=id O;obtain⟨_,eb,d0,d1,d2⟩:=an.fld HG.out;cases eb;rw[z1] at M1;rw[z2] at M2;rw[z3] at M3;obtain⟨_,eo,f0,f1,f2⟩:=ao.fld HF.out;cases eo;go_simp;rfl));simp only[Act.put,J1,J3,J2])
        |(refine RW.off (by rfl) ?_;simp only[Act.put,J1,J3,J2])
        |(refine' RW.call (by rfl) ?_ ?_ ?_
          rotate_left 3
          (focus (intro w' hS;obtain⟨HB,M,O,ao,an,am⟩:=hS;obtain⟨M0,M1,M2,M3⟩:=id M;obtain⟨O0,O1,O2⟩:=id O;obtain⟨_,eb,d0,d1,d2⟩:=an.fld HG.out;cases eb;rw[z1] at M1;rw[z2] at M2;rw[z3] at M3;obtain⟨_,eo,f0,f1,f2⟩:=ao.fld HF.out;cases eo;go_simp;exact⟨rfl,rfl⟩))
          (focus
            intro w' hS
            obtain⟨HB,M,O,ao,an,am⟩:=hS;obtain⟨M0,M1,M2,M3⟩:=id M;obtain⟨O0,O1,O2⟩:=id O;obtain⟨_,eb,d0,d1,d2⟩:=an.fld HG.out;cases eb;rw[z1] at M1;rw[z2] at M2;rw[z3] at M3;obtain⟨_,eo,f0,f1,f2⟩:=ao.fld HF.out;cases eo
            first
             |(refine(bf f.s g.s f.k f.l g.k g.l false HC.out _).mono ?_;rintro e w1 ⟨rfl,hb⟩;exact⟨rfl,⟨(aB HB hb),(M.below hb),(O.below hb),(ao.below hb),(an.below hb),(am.below hb)⟩⟩))
          simp only[Act.put,J1,J3,J2]))
       refine RW.done (fun w' hS=>?_)
       obtain⟨HB,M,O,ao,an,am⟩:=hS;obtain⟨M0,M1,M2,M3⟩:=id M;obtain⟨O0,O1,O2⟩:=id O;obtain⟨_,eb,d0,d1,d2⟩:=an.fld HG.out;cases eb;rw[z1] at M1;rw[z2] at M2;rw[z3] at M3;obtain⟨_,eo,f0,f1,f2⟩:=ao.fld HF.out;cases eo
       go_wp2
       go_ret
       exact⟨rfl,HB⟩
      ·obtain rfl:s=true:=hok
       have hall2:=HYES.out rfl
       refine RW.start (fun w'=>Below w.heap.size w w'/\dY w' wr.heap.size x/\fB w' w.heap.size (.slice (some od) no co) (.slice (some bd) nn cn) (.slice (some ad) nm cm)/\Rd w' (some od) (aC t.o)/\Rd w' (some bd) (aC t.n)/\Rd w' (some ad) (aJ t.m)) (by kernel_rfl) (by kernel_rfl) ⟨HB.drew,M,O,ao,an,am⟩ ?_
       clear HB M O ao an am
       repeat (first
        |(refine' RW.val (by rfl) ?_ ?_;rotate_left;(focus (intro w' hS;obtain⟨HB,M,O,ao,an,am⟩:=hS;obtain⟨M0,M1,M2,M3⟩:=id M;obtain⟨O0,O1,O2⟩:=id O;obtain⟨_,eb,d0,d1,d2⟩:=an.fld HG.out;cases eb;rw[z1] at M1;rw[z2] at M2;rw[z3] at M3;obtain⟨_,eo,f0,f1,f2⟩:=ao.fld HF.out;cases eo;go_simp;rfl));simp only[Act.put,J1,J3,J2])
        |(refine RW.off (by rfl) ?_;simp only[Act.put,J1,J3,J2])
        |(refine' RW.call (by rfl) ?_ ?_ ?_
          rotate_left 3
          (focus (intro w' hS;obtain⟨HB,M,O,ao,an,am⟩:=hS;obtain⟨M0,M1,M2,M3⟩:=id M;obtain⟨O0,O1,O2⟩:=id O;obtain⟨_,eb,d0,d1,d2⟩:=an.fld HG.out;cases eb;rw[z1] at M1;rw[z2] at M2;rw[z3] at M3;obtain⟨_,eo,f0,f1,f2⟩:=ao.fld HF.out;cases eo;go_simp;exact⟨rfl,rfl⟩))
          (focus
            intro w' hS
            obtain⟨HB,M,O,ao,an,am⟩:=hS;obtain⟨M0,M1,M2,M3⟩:=id M;obtain⟨O0,O1,O2⟩:=id O;obtain⟨_,eb,d0,d1,d2⟩:=an.fld HG.out;cases eb;rw[z1] at M1;rw[z2] at M2;rw[z3] at M3;obtain⟨_,eo,f0,f1,f2⟩:=ao.fld HF.out;cases eo
            first
             |(refine(bf f.s g.s f.k f.l g.k g.l true HC.out _).mono ?_;rintro e w1 ⟨rfl,hb⟩;exact⟨rfl,⟨(aB HB hb),(M.below hb),(O.below hb),(ao.below hb),(an.below hb),(am.below hb)⟩⟩))
          simp only[Act.put,J1,J3,J2]))
       refine RW.done (fun w' hS=>?_)
       obtain⟨HB,M,O,ao,an,am⟩:=hS;obtain⟨M0,M1,M2,M3⟩:=id M;obtain⟨O0,O1,O2⟩:=id O;obtain⟨_,eb,d0,d1,d2⟩:=an.fld HG.out;cases eb;rw[z1] at M1;rw[z2] at M2;rw[z3] at M3;obtain⟨_,eo,f0,f1,f2⟩:=ao.fld HF.out;cases eo
       go_wp2
       go_roundw
       case rel=>exact⟨k+1,by omega,by go_num,HB,ao,an,am,O,hall2⟩
       case measure=>simp[intOf];omega
     ·obtain rfl:s=false:=by rw[hok,Y9 hz];rfl
      obtain rfl:=HNOT.out rfl
      have hways:=CB hz
      clear hok hz
      rcases hways with z1|⟨z1,z2⟩|⟨z1,z2,z3⟩
      ·skip
       refine RW.start (fun w'=>Below w.heap.size w w'/\dY w' wr.heap.size x/\fB w' w.heap.size (.slice (some od) no co) (.slice (some bd) nn cn) (.slice (some ad) nm cm)/\Rd w' (some od) (aC t.o)/\Rd w' (some bd) (aC t.n)/\Rd w' (some ad) (aJ t.m)) (by kernel_rfl) (by kernel_rfl) ⟨HB.drew,M,O,ao,an,am⟩ ?_
       clear HB M O ao an am
       repeat (first
        |(refine' RW.val (by rfl) ?_ ?_;rotate_left;(focus (intro w' hS;obtain⟨HB,M,O,ao,an,am⟩:=hS;obtain⟨M0,M1,M2,M3⟩:=id M;obtain⟨O0,O1,O2⟩:=id O;go_simp;rfl));simp only[Act.put,J1,J3,J2])
        |(refine RW.off (by rfl) ?_;simp only[Act.put,J1,J3,J2]))
       refine RW.done (fun w' hS=>?_)
       obtain⟨HB,M,O,ao,an,am⟩:=hS;obtain⟨M0,M1,M2,M3⟩:=id M;obtain⟨O0,O1,O2⟩:=id O
       go_wp2
       go_ret
       exact⟨rfl,HB⟩
      ·skip
       refine RW.start (fun w'=>Below w.heap.size w w'/\dY w' wr.heap.size x/\fB w' w.heap.size (.slice (some od) no co) (.slice (some bd) nn cn) (.slice (some ad) nm cm)/\Rd w' (some od) (aC t.o)/\Rd w' (some bd) (aC t.n)/\Rd w' (some ad) (aJ t.m)) (by kernel_rfl) (by kernel_rfl) ⟨HB.drew,M,O,ao,an,am⟩ ?_
       clear HB M O ao an am
       repeat (first
        |(refine' RW.val (by rfl) ?_ ?_;rotate_left;(focus (intro w' hS;obtain⟨HB,M,O,ao,an,am⟩:=hS;obtain⟨M0,M1,M2,M3⟩:=id M;obtain⟨O0,O1,O2⟩:=id O;go_simp;rfl));simp only[Act.put,J1,J3,J2])
        |(refine RW.off (by rfl) ?_;simp only[Act.put,J1,J3,J2]))
       refine RW.done (fun w' hS=>?_)
       obtain⟨HB,M,O,ao,an,am⟩:=hS;obtain⟨M0,M1,M2,M3⟩:=id M;obtain⟨O0,O1,O2⟩:=id O
       go_wp2
       go_ret
       exact⟨rfl,HB⟩
      ·skip
       refine RW.start (fun w'=>Below w.heap.size w w'/\dY w' wr.heap.size x/\fB w' w.heap.size (.slice (some od) no co) (.slice (some bd) nn cn) (.slice (some ad) nm cm)/\Rd w' (some od) (aC t.o)/\Rd w' (some bd) (aC t.n)/\Rd w' (some ad) (aJ t.m)) (by kernel_rfl) (by kernel_rfl) ⟨HB.drew,M,O,ao,an,am⟩ ?_
       clear HB M O ao an am
       repeat (first
        |(refine' RW.val (by rfl) ?_ ?_;rotate_left;(focus (intro w' hS;obtain⟨HB,M,O,ao,an,am⟩:=hS;obtain⟨M0,M1,M2,M3⟩:=id M;obtain⟨O0,O1,O2⟩:=id O;go_simp;rfl));simp only[Act.put,J1,J3,J2])
        |(refine RW.off (by rfl) ?_;simp only[Act.put,J1,J3,J2]))
       refine RW.done (fun w' hS=>?_)
       obtain⟨HB,M,O,ao,an,am⟩:=hS;obtain⟨M0,M1,M2,M3⟩:=id M;obtain⟨O0,O1,O2⟩:=id O
       go_wp2
       go_ret
       exact⟨rfl,HB⟩
   ·obtain rfl:k=nm:=by omega
    obtain rfl:r=true:=by
     rw[HRR.out,Yx HL.out,Yx hall.out];rfl
    go_wp2
    go_ret
    exact⟨rfl,HB⟩
 ·have hz:((nm:Int) != (nn:Int))=true:=by simp;omega
  obtain rfl:r=false:=by rw[HRR.out,Y9 hlen];rfl
  clear hlen
  go_enter Tryz.func79,Tryz.ntmps79
  go_wp2_with (first
   |(have _t:=tok1;go_at_call 77;refine(ab Ao co no t.o HNO.out true HR1.out _ ao l0 SO.out).mono ?_;rintro e wM ⟨rfl,hb⟩;replace HB:=HB.trans (hb.mono HB.size);replace an:=an.below hb;replace am:=am.below hb;replace O:=O.below hb;obtain⟨O0,O1,O2⟩:=id O;clear hb tok1;have tok2:=Yz)
   |(have _t:=tok2;go_at_call 77;refine(ab An cn nn t.n HNN.out true HR2.out _ an l1 SN.out).mono ?_;rintro e wM ⟨rfl,hb⟩;replace HB:=HB.trans (hb.mono HB.size);replace O:=O.below hb;obtain⟨O0,O1,O2⟩:=id O;clear hb tok2;have tok3:=Yz))
  go_ret
  exact⟨rfl,HB⟩
end
section
open Go.RowKit Go.Lib
theorem jM (g:Nat) (e:ES) (fr:Nat×Nat):∀(vs:EO) (o:Nat) (w:EQ) (cur:Array ER),w.heap[g]?=some (.cells cur e fr)->o+vs.length<=cur.size->
 ∃cur',(w.setCells g o vs).heap[g]?=some (.cells cur' e fr)/\cur'.toList=cur.toList.take o++vs++cur.toList.drop (o+vs.length)
 |[],o,w,cur,hg,_=>⟨cur,hg,by simp⟩
 |v :: r,o,w,cur,hg,hl=>by
  simp only[Xq] at hl
  have h1:(w.setCell ⟨g,o,none⟩ v).heap[g]?=some (.cells (cur.setIfInBounds o v) e fr):=by
   obtain⟨hlt,hk⟩:=Qq.1 hg
   show(w.heap.modify g _)[g]?=_
   rw[Array.getElem?_eq_getElem (by rw[Array.size_modify];exact hlt),Array.getElem_modify_self,hk]
   simp
  obtain⟨cur',h2,h3⟩:=jM g e fr r (o+1) _ _ h1 (by simp;omega)
  refine⟨cur',h2,h3.trans ?_⟩
  simp only[Array.toList_setIfInBounds]
  have hol:o<cur.toList.length:=by simp;omega
  have e1:(cur.toList.set o v).take (o+1)=cur.toList.take o++[v]:=by
   rw[Vv,List.take_set_of_le (J9 _)]
   simp[List.getElem?_set_self,hol,show o<cur.size by omega]
  have e2:(cur.toList.set o v).drop (o+1+r.length)=cur.toList.drop (o+1+r.length):=by
   rw[List.drop_set_of_lt (by omega)]
  rw[e1,e2,Xq,show o+(r.length+1)=o+1+r.length by omega]
  simp
theorem dg {w:EQ} {g:Nat}:∀(vs:EO) (o:Nat) (W:EQ),w.grownBy W (some g)->w.grownBy (W.setCells g o vs) (some g)
 |[],_,_,h=>h
 |v :: r,o,W,h=>dg r (o+1) (W.setCell ⟨g,o,none⟩ v) ⟨h.os,h.tape,h.output,by simpa[World.setCell] using h.size,fun k hk hne=>(J5 _ _ _ _ (by rintro rfl;exact hne rfl)).trans (h.block k hk hne)⟩
theorem jn {P:Program} (w:EQ) (t e ty:ES) (z:ER) (zc:EO) (ht:P.underlying t=some (.slice e)) (hv:∀w,(zeroValue e).run P w=.ok z w) (hz:z.cells.toList=zc) (h0:0<zc.length) (h1:∀u∈zc,u.oneCell'=true) (b o c:Nat)
 (hc:∀j,j<zc.length->(w.cell? ⟨b,o+j,none⟩).isSome=true) (hf:∀j,j<zc.length->w.frozen? ⟨b,o+j,none⟩=false):
 (Builtin.clear_ #[t] ty #[.slice (some ⟨b,o,none⟩) 1 c]).run P w=.ok (.tuple #[]) (w.setCells b o zc):=by
 have hzc:(Builtin.zeroCells z.cells 1).toList=zc:=by
  rw[<-hz]
  simp[Builtin.zeroCells]
  apply List.ext_getElem
  ·simp
  ·intro i h1 h2
   simp at h1
   simp[Nat.mod_eq_of_lt h1,h1]
 have hst:=run_storeCells_cells (P:=P) b o zc 0 w (by simpa using hc) (by simpa using hf) h1
 simp only[Nat.add_zero] at hst
 simp[Builtin.clear_,run_underlying ht,hv,hzc,hst]
theorem nw {w:EQ} {base g cap N i K:Nat} {T:ES} {xs news zc:EO} {cur:Array ER} (hbase:base<=g) (hg:w.heap[g]?=some (.cells cur T (0,0))) (hc:N+1<=cap) (hm:cap<=maxLen) (hs:cur.size=cap * K) (ht:cur.toList.take ((N+1) * K)=xs) (hi:i<=N)
 (hn:news=xs.drop ((i+1) * K)) (hz:zc.length=K):
 ((w.setCells g (i * K) news).setCells g (N * K) zc).ownsRow base T K (.slice (some ⟨g,0,none⟩) N cap) N (xs.take (i * K)++xs.drop ((i+1) * K)):=by
 have m1:(N+1) * K=N * K+K:=by rw[Nat.add_mul];omega
 have m2:(i+1) * K=i * K+K:=by rw[Nat.add_mul];omega
 have m3:(N+1) * K<=cap * K:=Nat.mul_le_mul_right K hc
 have m4:i * K<=N * K:=Nat.mul_le_mul_right K hi
 have hxl:xs.length=(N+1) * K:=by rw[<-ht,Qx,Array.length_toList];omega
 have hnl:news.length=N * K - i * K:=by rw[hn,List.length_drop];omega
 obtain⟨cur1,h1,e1⟩:=jM g T (0,0) news (i * K) w cur hg (by omega)
 have hl1:cur1.size=cap * K:=by
  have:=congrArg List.length e1
  simp only[Array.length_toList,Vq,Qx,List.length_drop] at this
  omega
 obtain⟨cur2,h2,e2⟩:=jM g T (0,0) zc (N * K) _ cur1 h1 (by omega)
 have hl2:cur2.size=cap * K:=by
  have:=congrArg List.length e2
  simp only[Array.length_toList,Vq,Qx,List.length_drop] at this
  omega
 refine⟨by rw[Vq,Qx,List.length_drop];omega,.inr ⟨g,cap,cur2,rfl,hbase,h2,by omega,hm,hl2,?_⟩⟩
 rw[e2,X8,List.take_append_of_le_length (by rw[Qx,Array.length_toList];omega),List.take_take,Nat.min_self,e1,List.take_append_of_le_length (by rw[Vq,Qx,Array.length_toList];omega),Vx (by rw[Vq,Qx,Array.length_toList];omega)]
 rw[<-hn,<-ht,List.take_take,Nat.min_eq_left (by omega)]
theorem xN (base g cap N i:Nat) (xs:EO) (w:EQ) (ho:w.ownsRow base 68 3 (.slice (some ⟨g,0,none⟩) (N+1) cap) (N+1) xs) (hone:∀u∈xs,u.oneCell'=true) (hi:i<=N):
 Calls Tryz.prog 162 #[.slice (some ⟨g,0,none⟩) (N+1) cap,.int .i64 i,.int .i64 ((i:Int)+1)] w fun e w'=>e=.returned (.slice (some ⟨g,0,none⟩) N cap)/\w'.ownsRow base 68 3 (.slice (some ⟨g,0,none⟩) N cap) N (xs.take (i * 3)++xs.drop ((i+1) * 3))/\w.grownBy w' (some g):=by
 obtain⟨i0,hi0,hz0,hz1,hz2⟩:=info_parts fI
 obtain⟨hxl,h⟩:=ho
 rcases h with ⟨h,_⟩|⟨g',cap',cur,hv,hbase,hg,hc,hm,hs,ht⟩
 ·cases h
 cases hv
 have hm':cap<=9223372036854775807:=by simp only[maxLen] at hm;omega
 have hcell:∀t,t<cap * 3->(w.drew.cell? ⟨g,t,none⟩).isSome=true/\w.drew.frozen? ⟨g,t,none⟩=false:=fun t htl=>by
  have hg':w.drew.heap[g]?=some (.cells cur 68 (0,0)):=hg
  refine⟨?_,by simp[World.frozen?,hg']⟩
  simp[World.cell?,hg',show t<cur.size by omega]
 obtain⟨news,hnews⟩:∃news,news=xs.drop ((i+1) * 3):=⟨_,rfl⟩
 have hlen:news.length=(N - i) * 3:=by rw[hnews,List.length_drop,hxl];omega
 have hget:∀t u,news[t]?=some u->w.drew.cell? ⟨g,(i+1) * 3+t,none⟩=some u:=by
  intro t u htu
  have hg':w.drew.heap[g]?=some (.cells cur 68 (0,0)):=hg
  rw[hnews,List.getElem?_drop,<-ht,X7] at htu
  split at htu
  ·simp only[World.cell?,hg']
   simpa using htu
  ·cases htu
 obtain⟨A,hA,hsrc⟩:∃A:Addr,(if cap=i+1 then some (⟨g,0,none⟩:Addr) else some ⟨g,(i+1) * 3,none⟩)=some A/\Hid (∀t u,news[t]?=some u->w.drew.cell? (A.add t)=some u):=by
  by_cases h:cap=i+1
  ·refine⟨⟨g,0,none⟩,by simp[h],fun t u hu=>?_⟩
   have h0:news.length=0:=by rw[hlen];omega
   rw[List.length_eq_zero_iff.1 h0] at hu
   simp at hu
  ·refine⟨⟨g,(i+1) * 3,none⟩,by simp[h],fun t u hu=>?_⟩
   rw[Addr.add_lit]
   exact hget t u hu
 have s1:Hid (news.length=(N - i) * 3):=hlen
 have s2:Hid (∀u∈news,u.oneCell'=true):=by
  intro u hu
  rw[hnews] at hu
  exact hone u (List.mem_of_mem_drop hu)
 have s3:Hid (∀t,t<news.length->(w.drew.cell? ⟨g,0+i * 3+t,none⟩).isSome=true/\w.drew.frozen? ⟨g,0+i * 3+t,none⟩=false):=by
  intro t ht
  rw[hlen] at ht
  exact hcell _ (by omega)
 obtain⟨W1,hW1⟩:∃W1,W1=w.drew.setCells g (0+i * 3) news:=⟨_,rfl⟩
 have hown:=nw (w:=w.drew) (base:=base) (g:=g) (cap:=cap) (N:=N) (i:=i) (K:=3) (T:=68) (xs:=xs) (news:=news) (zc:=[.string ⟨#[]⟩,.int .i64 0,.int .i64 0]) (cur:=cur) hbase hg hc hm hs ht hi hnews rfl
 have hgr:=dg (w:=w) (g:=g) [.string ⟨#[]⟩,.int .i64 0,.int .i64 0] (N * 3) _ (dg news (i * 3) w.drew ⟨rfl,rfl,rfl,J9 _,fun _ _ _=>rfl⟩)
 have hW1':w.drew.setCells g (i * 3) news=W1:=by rw[hW1,Nat.zero_add]
 rw[hW1'] at hown hgr
 have hc1:∀t,t<cap * 3->(W1.cell? ⟨g,t,none⟩).isSome=true/\W1.frozen? ⟨g,t,none⟩=false:=fun t htl=>by
  obtain⟨c1,c2⟩:=hcell t htl
  rw[hW1]
  exact⟨World.isSome_setCells g news _ _ _ c1,by rw[World.frozen?_setCells];exact c2⟩
 have hcl:∀ty,(Builtin.clear_ #[27] ty #[.slice (some ⟨g,N * 3,none⟩) 1 (cap - N)]).run Tryz.prog W1=.ok (.tuple #[]) (W1.setCells g (N * 3) [.string ⟨#[]⟩,.int .i64 0,.int .i64 0]):=
  fun ty=>jn W1 _ _ ty (.agg #[.string ⟨#[]⟩,.int .i64 0,.int .i64 0]) [.string ⟨#[]⟩,.int .i64 0,.int .i64 0] Tryz.underlying27 (fun _=>by simp only[zeroValue,Sem.run_bind,run_typeInfo _ hi0,Result.andThen_ok,hz0,Sem.run_pure]) rfl (by decide) (by intro u hu;simp at hu;rcases hu with rfl|rfl|rfl|rfl <;> rfl) g (N * 3) _ (fun t ht=>by simp at ht;exact(hc1 _ (by omega)).1) (fun t ht=>by simp at ht;exact(hc1 _ (by omega)).2)
 have hW:Hid (W1=w.drew.setCells g (0+i * 3) news):=hW1
 have hic:i<=cap:=by omega
 have hjc:i+1<=cap:=by omega
 have mixed:Tryz.prog.follows .mixedOrders=true:=by kernel_rfl
 have hi1:(0:Int)<=(i:Int)+1:=by omega
 have hN1:i+(N - i)=N:=by omega
 have hN2:N+1 - N=1:=by omega
 clear hW1 hW1' hnews hget hlen hcell hc1
 go_enter Tryz.func162,Tryz.ntmps162
 go_wp2_with fail
 go_region_law_o (refine step_append_room rfl (.tmp 22) (.tmp 25) 27 rfl 68 i0 3 Tryz.underlying27 hi0 hz1 g 0 i cap (by simp[Act.eval,Act.put]) A (N - i) (cap - (i+1)) news (by simp[Act.eval,Act.put]) s1.out hsrc.out s2.out (by omega) s3.out ?_;rw[<-hW.out,hN1])
 go_wp2
 go_ret
 exact⟨rfl,hown,hgr⟩
theorem xP (base g cap N i:Nat) (xs:EO) (w:EQ) (ho:w.ownsRow base 137 4 (.slice (some ⟨g,0,none⟩) (N+1) cap) (N+1) xs) (hone:∀u∈xs,u.oneCell'=true) (hi:i<=N):
 Calls Tryz.prog 163 #[.slice (some ⟨g,0,none⟩) (N+1) cap,.int .i64 i,.int .i64 ((i:Int)+1)] w fun e w'=>e=.returned (.slice (some ⟨g,0,none⟩) N cap)/\w'.ownsRow base 137 4 (.slice (some ⟨g,0,none⟩) N cap) N (xs.take (i * 4)++xs.drop ((i+1) * 4))/\w.grownBy w' (some g):=by
 obtain⟨i0,hi0,hz0,hz1,hz2⟩:=info_parts kB
 obtain⟨hxl,h⟩:=ho
 rcases h with ⟨h,_⟩|⟨g',cap',cur,hv,hbase,hg,hc,hm,hs,ht⟩
 ·cases h
 cases hv
 have hm':cap<=9223372036854775807:=by simp only[maxLen] at hm;omega
 have hcell:∀t,t<cap * 4->(w.drew.cell? ⟨g,t,none⟩).isSome=true/\w.drew.frozen? ⟨g,t,none⟩=false:=fun t htl=>by
  have hg':w.drew.heap[g]?=some (.cells cur 137 (0,0)):=hg
  refine⟨?_,by simp[World.frozen?,hg']⟩
  simp[World.cell?,hg',show t<cur.size by omega]
 obtain⟨news,hnews⟩:∃news,news=xs.drop ((i+1) * 4):=⟨_,rfl⟩
 have hlen:news.length=(N - i) * 4:=by rw[hnews,List.length_drop,hxl];omega
 have hget:∀t u,news[t]?=some u->w.drew.cell? ⟨g,(i+1) * 4+t,none⟩=some u:=by
  intro t u htu
  have hg':w.drew.heap[g]?=some (.cells cur 137 (0,0)):=hg
  rw[hnews,List.getElem?_drop,<-ht,X7] at htu
  split at htu
  ·simp only[World.cell?,hg']
   simpa using htu
  ·cases htu
 obtain⟨A,hA,hsrc⟩:∃A:Addr,(if cap=i+1 then some (⟨g,0,none⟩:Addr) else some ⟨g,(i+1) * 4,none⟩)=some A/\Hid (∀t u,news[t]?=some u->w.drew.cell? (A.add t)=some u):=by
  by_cases h:cap=i+1
  ·refine⟨⟨g,0,none⟩,by simp[h],fun t u hu=>?_⟩
   have h0:news.length=0:=by rw[hlen];omega
   rw[List.length_eq_zero_iff.1 h0] at hu
   simp at hu
  ·refine⟨⟨g,(i+1) * 4,none⟩,by simp[h],fun t u hu=>?_⟩
   rw[Addr.add_lit]
   exact hget t u hu
 have s1:Hid (news.length=(N - i) * 4):=hlen
 have s2:Hid (∀u∈news,u.oneCell'=true):=by
  intro u hu
  rw[hnews] at hu
  exact hone u (List.mem_of_mem_drop hu)
 have s3:Hid (∀t,t<news.length->(w.drew.cell? ⟨g,0+i * 4+t,none⟩).isSome=true/\w.drew.frozen? ⟨g,0+i * 4+t,none⟩=false):=by
  intro t ht
  rw[hlen] at ht
  exact hcell _ (by omega)
 obtain⟨W1,hW1⟩:∃W1,W1=w.drew.setCells g (0+i * 4) news:=⟨_,rfl⟩
 have hown:=nw (w:=w.drew) (base:=base) (g:=g) (cap:=cap) (N:=N) (i:=i) (K:=4) (T:=137) (xs:=xs) (news:=news) (zc:=[.int .i64 0,.int .i64 0,.int .u64 0,.string ⟨#[]⟩]) (cur:=cur) hbase hg hc hm hs ht hi hnews rfl
 have hgr:=dg (w:=w) (g:=g) [.int .i64 0,.int .i64 0,.int .u64 0,.string ⟨#[]⟩] (N * 4) _ (dg news (i * 4) w.drew ⟨rfl,rfl,rfl,J9 _,fun _ _ _=>rfl⟩)
 have hW1':w.drew.setCells g (i * 4) news=W1:=by rw[hW1,Nat.zero_add]
 rw[hW1'] at hown hgr
 have hc1:∀t,t<cap * 4->(W1.cell? ⟨g,t,none⟩).isSome=true/\W1.frozen? ⟨g,t,none⟩=false:=fun t htl=>by
  obtain⟨c1,c2⟩:=hcell t htl
  rw[hW1]
  exact⟨World.isSome_setCells g news _ _ _ c1,by rw[World.frozen?_setCells];exact c2⟩
 have hcl:∀ty,(Builtin.clear_ #[94] ty #[.slice (some ⟨g,N * 4,none⟩) 1 (cap - N)]).run Tryz.prog W1=.ok (.tuple #[]) (W1.setCells g (N * 4) [.int .i64 0,.int .i64 0,.int .u64 0,.string ⟨#[]⟩]):=
  fun ty=>jn W1 _ _ ty (.agg #[.int .i64 0,.int .i64 0,.int .u64 0,.string ⟨#[]⟩]) [.int .i64 0,.int .i64 0,.int .u64 0,.string ⟨#[]⟩] Tryz.underlying94 (fun _=>by simp only[zeroValue,Sem.run_bind,run_typeInfo _ hi0,Result.andThen_ok,hz0,Sem.run_pure]) rfl (by decide) (by intro u hu;simp at hu;rcases hu with rfl|rfl|rfl|rfl <;> rfl) g (N * 4) _ (fun t ht=>by simp at ht;exact(hc1 _ (by omega)).1) (fun t ht=>by simp at ht;exact(hc1 _ (by omega)).2)
 have hW:Hid (W1=w.drew.setCells g (0+i * 4) news):=hW1
 have hic:i<=cap:=by omega
 have hjc:i+1<=cap:=by omega
 have mixed:Tryz.prog.follows .mixedOrders=true:=by kernel_rfl
 have hi1:(0:Int)<=(i:Int)+1:=by omega
 have hN1:i+(N - i)=N:=by omega
 have hN2:N+1 - N=1:=by omega
 clear hW1 hW1' hnews hget hlen hcell hc1
 go_enter Tryz.func163,Tryz.ntmps163
 go_wp2_with fail
 go_region_law_o (refine step_append_room rfl (.tmp 22) (.tmp 25) 94 rfl 137 i0 4 Tryz.underlying94 hi0 hz1 g 0 i cap (by simp[Act.eval,Act.put]) A (N - i) (cap - (i+1)) news (by simp[Act.eval,Act.put]) s1.out hsrc.out s2.out (by omega) s3.out ?_;rw[<-hW.out,hN1])
 go_wp2
 go_ret
 exact⟨rfl,hown,hgr⟩
theorem aD.grown {w w':EQ} {b:Nat} {cs:EO} {T:ES} {row:Option Nat} (h:aD w b cs T) (hg:w.grownBy w' row) (hn:some b≠row):aD w' b cs T:=(hg.block b h.lt hn).trans h
theorem cY {w w':EQ} {base:Nat} {e:ES} {size n:Nat} {v:ER} {xs:EO} {row:Option Nat} (h:w.ownsRow base e size v n xs) (hg:w.grownBy w' row) (hn:∀g,v.ownBlock=some g->some g≠row):w'.ownsRow base e size v n xs:=
 aN h fun g hk=>hg.block g (aY h g hk) (hn g hk)
theorem gm.grown {b:Nat} {w w':EQ} {A:EL} {cs:EO} {row:Option Nat} (h:gm b w A cs) (hg:w.grownBy w' row) (hb:b<=w.heap.size) (hn:∀g,row=some g->b<=g):gm b w' A cs:=
 h.below ((Jy b w).grown hg hb hn)
def pX (c:Ch) (qv:ER):EO:=[.int .i64 c.op,.string c.s,.string c.g.s,.int .i64 c.g.k,.int .i64 c.g.l,.int .i64 c.d.k,.int .u64 c.d.b,.string c.d.t,qv]
def cx (w:EQ) (b:Nat) (c:Ch) (qv:ER) (T:ES):Prop:=aD w b (pX c qv) T
theorem cx.c9 {w:EQ} {b:Nat} {c:Ch} {qv:ER} {T:ES} (h:cx w b c qv T):w.cell? ⟨b,0,none⟩=some (.int .i64 c.op)/\w.cell? ⟨b,1,none⟩=some (.string c.s)/\w.cell? ⟨b,2,none⟩=some (.string c.g.s)/\w.cell? ⟨b,3,none⟩=some (.int .i64 c.g.k)/\w.cell? ⟨b,4,none⟩=some (.int .i64 c.g.l)/\
 w.cell? ⟨b,5,none⟩=some (.int .i64 c.d.k)/\w.cell? ⟨b,6,none⟩=some (.int .u64 c.d.b)/\w.cell? ⟨b,7,none⟩=some (.string c.d.t)/\w.cell? ⟨b,8,none⟩=some qv:=
 ⟨aD.cell h rfl,aD.cell h rfl,aD.cell h rfl,aD.cell h rfl,aD.cell h rfl,aD.cell h rfl,aD.cell h rfl,aD.cell h rfl,aD.cell h rfl⟩
theorem cx.below {w w1:EQ} {b:Nat} {c:Ch} {qv:ER} {T:ES} (h:cx w b c qv T) (hb:Below w.heap.size w w1):cx w1 b c qv T:=aD.below h hb
structure aO (r2 r3:Option Nat) (w w':EQ):Prop where
 os:w'.os=w.os
 tape:w'.tape=w.tape
 output:w'.output=w.output
 size:w.heap.size<=w'.heap.size
 block:∀k,k<w.heap.size->some k≠r2->some k≠r3->w'.heap[k]?=w.heap[k]?
theorem aO.of {r2 r3:Option Nat} {w w':EQ} (h:Below w.heap.size w w'):aO r2 r3 w w':=⟨h.os,h.tape,h.output,h.size,fun k hk _ _=>h.block k hk⟩
theorem aO.low {r2 r3:Option Nat} {w w':EQ} {B:Nat} (h:aO r2 r3 w w') (hB:B<=w.heap.size) (h2:∀g,r2=some g->B<=g) (h3:∀g,r3=some g->B<=g):Below B w w':=
 ⟨h.os,h.tape,h.output,h.size,fun k hk=>h.block k (by omega) (fun e=>by have:=h2 k e.symm;omega) (fun e=>by have:=h3 k e.symm;omega)⟩
theorem aO.grown {r2 r3 row:Option Nat} {w W W':EQ} (h:aO r2 r3 w W) (hg:W.grownBy W' row) (hr:row=r2\/row=r3):aO r2 r3 w W':=
 ⟨hg.os.trans h.os,hg.tape.trans h.tape,hg.output.trans h.output,Q7 h.size hg.size,fun k hk n2 n3=>(hg.block k (by have:=h.size;omega) (by rcases hr with e|e <;> rw[e] <;> assumption)).trans (h.block k hk n2 n3)⟩
theorem aO.seq {r2 r3:Option Nat} {w W W':EQ} (h:aO r2 r3 w W) (hb:Below W.heap.size W W'):aO r2 r3 w W':=
 ⟨hb.os.trans h.os,hb.tape.trans h.tape,hb.output.trans h.output,Q7 h.size hb.size,fun k hk n2 n3=>(hb.block k (by have:=h.size;omega)).trans (h.block k hk n2 n3)⟩
theorem aO.setCell {r2 r3:Option Nat} {w W:EQ} (h:aO r2 r3 w W) {p:Addr} (hp:w.heap.size<=p.block) (u:ER):aO r2 r3 w (W.setCell p u):=
 ⟨h.os,h.tape,h.output,by simpa[World.setCell] using h.size,fun k hk n2 n3=>(J5 _ _ _ _ (by omega)).trans (h.block k hk n2 n3)⟩
theorem aO.then {r2 r3:Option Nat} {w W W':EQ} (h:aO r2 r3 w W) (hb:aO r2 r3 W W'):aO r2 r3 w W':=
 ⟨hb.os.trans h.os,hb.tape.trans h.tape,hb.output.trans h.output,Q7 h.size hb.size,fun k hk n2 n3=>(hb.block k (by have:=h.size;omega) n2 n3).trans (h.block k hk n2 n3)⟩
theorem aD.only {r2 r3:Option Nat} {w w':EQ} {b:Nat} {cs:EO} {T:ES} (h:aD w b cs T) (ho:aO r2 r3 w w') (n2:some b≠r2) (n3:some b≠r3):aD w' b cs T:=(ho.block b h.lt n2 n3).trans h
def au (P:Nat->Prop) (w:EQ) (A:EL) (cs:EO):Prop:=cs≠[]->∃ad,A=some ad/\P ad.block/\∀j u,cs[j]?=some u->w.cell? (ad.add j)=some u
theorem au.rd {P:Nat->Prop} {w:EQ} {A:EL} {cs:EO} (h:au P w A cs):Rd w A cs:=fun hn=>by
 obtain⟨ad,e,_,hc⟩:=h hn;exact⟨ad,e,hc⟩
theorem au.keep {P:Nat->Prop} {w w':EQ} {A:EL} {cs:EO} (h:au P w A cs) (hk:∀k,P k->w'.heap[k]?=w.heap[k]?):au P w' A cs:=fun hn=>by
 obtain⟨ad,e,hp,hc⟩:=h hn
 refine⟨ad,e,hp,fun j u hj=>(World.cell?_of_block ?_).trans (hc j u hj)⟩
 have:(ad.add j).block=ad.block:=by unfold Addr.add;split <;> rfl
 rw[this];exact hk _ hp
theorem au.mono {P Q:Nat->Prop} {w:EQ} {A:EL} {cs:EO} (h:au P w A cs) (hq:∀k,P k->Q k):au Q w A cs:=fun hn=>by
 obtain⟨ad,e,hp,hc⟩:=h hn;exact⟨ad,e,hq _ hp,hc⟩
theorem au.mk {P:Nat->Prop} {w:EQ} {A:EL} {cs:EO} (h:Rd w A cs) (hp:∀ad,A=some ad->P ad.block):au P w A cs:=fun hn=>by
 obtain⟨ad,e,hc⟩:=h hn;exact⟨ad,e,hp ad e,hc⟩
def gP (P:Nat->Prop) (w:EQ) (v:ER) (t:Tb):Prop:=∃A c B d C e,v=.agg #[.slice A t.o.length c,.slice B t.n.length d,.slice C t.m.length e]/\t.n.length<=d/\au P w A (aC t.o)/\au P w B (aC t.n)/\au P w C (aJ t.m)
theorem gP.keep {P:Nat->Prop} {w w':EQ} {v:ER} {t:Tb} (h:gP P w v t) (hk:∀k,P k->w'.heap[k]?=w.heap[k]?):gP P w' v t:=by
 obtain⟨A,c,B,d,C,e,hv,hd,h0,h1,h2⟩:=h
 exact⟨A,c,B,d,C,e,hv,hd,h0.keep hk,h1.keep hk,h2.keep hk⟩
theorem gP.mono {P Q:Nat->Prop} {w:EQ} {v:ER} {t:Tb} (h:gP P w v t) (hq:∀k,P k->Q k):gP Q w v t:=by
 obtain⟨A,c,B,d,C,e,hv,hd,h0,h1,h2⟩:=h
 exact⟨A,c,B,d,C,e,hv,hd,h0.mono hq,h1.mono hq,h2.mono hq⟩
def dZ (r2 r3:Option Nat) (P:Nat->Prop) (t:Tb) (code:Int) (w:EQ) (e:Ending) (w':EQ):Prop:=
 ∃A na ca B nb cb C nc cc,e=.returned (.tuple #[.agg #[.slice A na ca,.slice B nb cb,.slice C nc cc],.int .i64 code])/\(code=0->gP P w' (.agg #[.slice A na ca,.slice B nb cb,.slice C nc cc]) t)/\aO r2 r3 w w'
theorem dj {w:EQ} {P:Nat->Prop} {base n c:Nat} {e:ES} {K:Nat} {A:EL} {xs:EO} (h:w.ownsRow base e K (.slice A n c) n xs) (hp:∀g,(Value.slice A n c).ownBlock=some g->P g):au P w A xs:=by
 obtain⟨A',c',e1,_,_,hr⟩:=aL h
 cases e1
 exact au.mk hr fun ad e=>hp _ (by rw[e];rfl)
theorem nr {w:EQ} {P:Nat->Prop} {A:EL} {m c n k b b':Nat} {v2 v3:ER} {t:Tb} (hm:t.o.length=m) (R:Rd w A (aC t.o)) (hp:∀ad,A=some ad->P ad.block) (o2:w.ownsRow b 68 3 v2 n (aC t.n)) (hn:t.n.length=n) (p2:∀g,v2.ownBlock=some g->P g)
 (o3:w.ownsRow b' 137 4 v3 k (aJ t.m)) (hk:t.m.length=k) (p3:∀g,v3.ownBlock=some g->P g):gP P w (.agg #[.slice A m c,v2,v3]) t:=by
 subst hm hn hk
 obtain⟨B,d,rfl,hd,_,_⟩:=aL o2
 obtain⟨C,e,rfl,_,_,_⟩:=aL o3
 exact⟨A,c,B,d,C,e,rfl,hd,au.mk R hp,dj o2 p2,dj o3 p3⟩
theorem cQ (x y z:ER) (c:Ch) (qv:ER) (w:EQ):aD (((w.alloc (.cells #[x,y,z] 96)).alloc (.cells #[.int .i64 c.op,.string c.s,.string c.g.s,.int .i64 c.g.k,.int .i64 c.g.l,.int .i64 c.d.k,.int .u64 c.d.b,.string c.d.t,qv] 76)).alloc (.cells #[.slice none 0 0,.slice none 0 0,.slice none 0 0] 96)) w.heap.size [x,y,z] 96/\cx (((w.alloc (.cells #[x,y,z] 96)).alloc (.cells #[.int .i64 c.op,.string c.s,.string c.g.s,.int .i64 c.g.k,.int .i64 c.g.l,.int .i64 c.d.k,.int .u64 c.d.b,.string c.d.t,qv] 76)).alloc (.cells #[.slice none 0 0,.slice none 0 0,.slice none 0 0] 96)) (w.heap.size+1) c qv 76/\aD (((w.alloc (.cells #[x,y,z] 96)).alloc (.cells #[.int .i64 c.op,.string c.s,.string c.g.s,.int .i64 c.g.k,.int .i64 c.g.l,.int .i64 c.d.k,.int .u64 c.d.b,.string c.d.t,qv] 76)).alloc (.cells #[.slice none 0 0,.slice none 0 0,.slice none 0 0] 96)) (w.heap.size+1+1) [.slice none 0 0,.slice none 0 0,.slice none 0 0] 96/\Below w.heap.size w (((w.alloc (.cells #[x,y,z] 96)).alloc (.cells #[.int .i64 c.op,.string c.s,.string c.g.s,.int .i64 c.g.k,.int .i64 c.g.l,.int .i64 c.d.k,.int .u64 c.d.b,.string c.d.t,qv] 76)).alloc (.cells #[.slice none 0 0,.slice none 0 0,.slice none 0 0] 96)):=by
 have b2:=aA (w:=w.alloc (.cells #[x,y,z] 96)) (.cells #[.int .i64 c.op,.string c.s,.string c.g.s,.int .i64 c.g.k,.int .i64 c.g.l,.int .i64 c.d.k,.int .u64 c.d.b,.string c.d.t,qv] 76)
 have b3:=aA (w:=(w.alloc (.cells #[x,y,z] 96)).alloc (.cells #[.int .i64 c.op,.string c.s,.string c.g.s,.int .i64 c.g.k,.int .i64 c.g.l,.int .i64 c.d.k,.int .u64 c.d.b,.string c.d.t,qv] 76)) (.cells #[.slice none 0 0,.slice none 0 0,.slice none 0 0] 96)
 have C:aD _ _ _ _:=(aD.new (w.alloc (.cells #[x,y,z] 96)) (pX c qv) 76).below b3
 have N:=aD.new ((w.alloc (.cells #[x,y,z] 96)).alloc (.cells #[.int .i64 c.op,.string c.s,.string c.g.s,.int .i64 c.g.k,.int .i64 c.g.l,.int .i64 c.d.k,.int .u64 c.d.b,.string c.d.t,qv] 76)) [.slice none 0 0,.slice none 0 0,.slice none 0 0] 96
 rw[Jq] at C
 rw[Jq,Jq] at N
 exact⟨((aD.new w [x,y,z] 96).below b2).below b3,C,N,aB (aB (aA _) b2) b3⟩
theorem Bh (l:List Fd) (c:Ch) (m:Nat) (hm:l.length=m) (h16:m<=16) (B:EL) (d b1 b2:Nat) (v2 v3 qv:ER) (w:EQ) (h1:b1<=b2) (h2:b2<=w.heap.size) (R1:gm b1 w B (aC l)) (own2:w.ownsRow b1 68 3 v2 m (aC l)) (lt2:cO b2 v2) (own3:w.ownsRow b2 137 4 v3 m (aJ (kM m))) (P:Nat->Prop) (hP1:∀ad,B=some ad->P ad.block) (hP2:∀g,v2.ownBlock=some g->P g) (hP3:∀g,v3.ownBlock=some g->P g) (hPn:∀g,w.heap.size<=g->P g) (x0:0<=c.d.b) (x1:c.d.b<18446744073709551616) (hr:aM c.d.k c.d.b c.d.t c.g.k c.g.l=false):
 Calls Tryz.prog 135 #[.agg #[.slice B m d,v2,v3],.agg #[.int .i64 c.op,.string c.s,.string c.g.s,.int .i64 c.g.k,.int .i64 c.g.l,.int .i64 c.d.k,.int .u64 c.d.b,.string c.d.t,qv]] w fun e w'=>dZ v2.ownBlock v3.ownBlock P Tb.z 80 w e w':=by
 obtain⟨B2,d2,rfl,hd2,hmx2,rd2⟩:=aL own2
 obtain⟨B3,d3,rfl,hd3,hmx3,rd3⟩:=aL own3
 obtain⟨T1,C1,N1,HB⟩:=cQ (.slice B m d) (.slice B2 m d2) (.slice B3 m d3) c qv w
 obtain⟨i1,i2,i3,j1,j2,j3⟩:=T1.f3
 obtain⟨n1,n2,n3,o1,o2,o3⟩:=N1.f3
 obtain⟨a0,a1,a2,a3,a4,a5,a6,a7,a8⟩:=C1.c9
 have HM:=J0 hm
 have HP1:=J0 hP1
 have HP2:=J0 hP2
 have HP3:=J0 hP3
 have HPN:=J0 hPn
 clear hm hP1 hP2 hP3 hPn
 have HR:=J0 hr
 clear hr
 go_enter Tryz.func135,Tryz.ntmps135
 go_wp2_with (go_at_call 95;refine(av c.d.k c.d.b c.d.t c.g.s c.g.k c.g.l x0 x1 false HR.out _).mono ?_;rintro e wM ⟨rfl,hb⟩;replace HB:=HB.trans (hb.mono HB.size);replace T1:=T1.below hb;replace N1:=N1.below hb;clear hb i1 i2 i3 j1 j2 j3 n1 n2 n3 o1 o2 o3 a0 a1 a2 a3 a4 a5 a6 a7 a8;obtain⟨i1,i2,i3,j1,j2,j3⟩:=T1.f3;obtain⟨n1,n2,n3,o1,o2,o3⟩:=N1.f3)
 refine Xx (v:=.tuple #[.agg #[.slice B m d,.slice B2 m d2,.slice B3 m d3],.int .i64 80]) (by simp[results,Tryz.results135,go_sem, *];done) rfl ⟨_,_,_,_,_,_,_,_,_,rfl,fun h=>absurd h (by decide),aO.of ?_⟩
 (repeat (first|exact HB|refine J8 ?_ (by dsimp only;omega) _|refine Jk ?_ (by have:=HB.size;(try simp) <;> omega) _|apply Jv))
theorem yy (l:List Fd) (c:Ch) (m:Nat) (hm:l.length=m) (h16:m<=16) (B:EL) (d b1 b2:Nat) (v2 v3 qv:ER) (w:EQ) (h1:b1<=b2) (h2:b2<=w.heap.size) (R1:gm b1 w B (aC l)) (own2:w.ownsRow b1 68 3 v2 m (aC l)) (lt2:cO b2 v2) (own3:w.ownsRow b2 137 4 v3 m (aJ (kM m))) (P:Nat->Prop) (hP1:∀ad,B=some ad->P ad.block) (hP2:∀g,v2.ownBlock=some g->P g) (hP3:∀g,v3.ownBlock=some g->P g) (hPn:∀g,w.heap.size<=g->P g) (x0:0<=c.d.b) (x1:c.d.b<18446744073709551616) (hr:aM c.d.k c.d.b c.d.t c.g.k c.g.l=true):
 Calls Tryz.prog 135 #[.agg #[.slice B m d,v2,v3],.agg #[.int .i64 c.op,.string c.s,.string c.g.s,.int .i64 c.g.k,.int .i64 c.g.l,.int .i64 c.d.k,.int .u64 c.d.b,.string c.d.t,qv]] w fun e w'=>dZ v2.ownBlock v3.ownBlock P ⟨l,l++[c.g],kM m++[⟨-1,c.d⟩]⟩ 0 w e w':=by
 obtain⟨iF,hiF,hzF0,hzF1,hzF2⟩:=info_parts fI
 obtain⟨iM,hiM,hzM0,hzM1,hzM2⟩:=info_parts kB
 obtain⟨B2,d2,rfl,hd2,hmx2,rd2⟩:=aL own2
 obtain⟨B3,d3,rfl,hd3,hmx3,rd3⟩:=aL own3
 obtain⟨T1,C1,N1,HB⟩:=cQ (.slice B m d) (.slice B2 m d2) (.slice B3 m d3) c qv w
 obtain⟨i1,i2,i3,j1,j2,j3⟩:=T1.f3
 obtain⟨n1,n2,n3,o1,o2,o3⟩:=N1.f3
 obtain⟨a0,a1,a2,a3,a4,a5,a6,a7,a8⟩:=C1.c9
 have HM:=J0 hm
 have HP1:=J0 hP1
 have HP2:=J0 hP2
 have HP3:=J0 hP3
 have HPN:=J0 hPn
 clear hm hP1 hP2 hP3 hPn
 have HR:=J0 hr
 have l2:=aY own2
 have l3:=aY own3
 clear hr
 go_enter Tryz.func135,Tryz.ntmps135
 go_wp2_with (first
  |(go_at_call 95;refine(av c.d.k c.d.b c.d.t c.g.s c.g.k c.g.l x0 x1 true HR.out _).mono ?_;rintro e wM ⟨rfl,hb⟩;replace HB:=HB.trans (hb.mono HB.size);replace T1:=T1.below hb;replace C1:=C1.below hb;replace N1:=N1.below hb;clear hb i1 i2 i3 j1 j2 j3 n1 n2 n3 o1 o2 o3 a0 a1 a2 a3 a4 a5 a6 a7 a8;obtain⟨i1,i2,i3,j1,j2,j3⟩:=T1.f3;obtain⟨a0,a1,a2,a3,a4,a5,a6,a7,a8⟩:=C1.c9;have ow2:=aG own2 HB;have ow3:=aG own3 HB;have R2:=R1.below (HB.mono (Q7 h1 h2));clear own2 own3 R1;have zz:=N1.lt;have nf:=aA (w:=wM) (.cells #[.string c.g.s,.int .i64 c.g.k,.int .i64 c.g.l] 68);have T2:=T1.below nf;obtain⟨p1,p2,p3,q1,q2,q3⟩:=T2.f3)
  |(at_builtin;refine Y4 _ rfl _ _ 27 rfl b1 68 iF (.agg #[.string ⟨#[]⟩,.int .i64 0,.int .i64 0]) 3 32 Tryz.underlying27 hiF hzF0 hzF1 hzF2 rfl (by decide) _ _ _ rfl (aG ow2 nf) ⟨wM.heap.size,0,none⟩ 1 1 [.string c.g.s,.int .i64 c.g.k,.int .i64 c.g.l] rfl rfl ?c1 ?c2 ?c3 ?c4 ?c5 ?_))
 case c1=>exact fV _ _ _ _ _
 case c2=>intro u hu;simp at hu;rcases hu with rfl|rfl|rfl <;> rfl
 case c3=>simp only[maxLen];omega
 case c4=>omega
 case c5=>have:=nf.size;omega
 intro v' W2 ow2' hg2 _ hat2
 have T3:=T2.grown hg2 (by intro e;have:=l2 _ e.symm;omega)
 have C3:cx W2 (w.heap.size+1) c qv 76:=aD.grown (C1.below nf) hg2 (by intro e;have:=l2 _ e.symm;omega)
 have N3:=(N1.below nf).grown hg2 (by intro e;have:=l2 _ e.symm;omega)
 have ow3':=cY (aG ow3 nf) hg2 (by intro g hg e;have h5:=lt2 _ e.symm;have h6:=aF ow3 g hg;omega)
 have R3:=(R2.below (nf.mono (by have:=HB.size;omega))).grown hg2 (by have:=nf.size;have:=HB.size;omega) (fun g hg=>aF ow2 g hg)
 have HB2:aO (Value.slice B2 m d2).ownBlock (Value.slice B3 m d3).ownBlock w W2:=((aO.of HB).seq nf).grown hg2 (.inl rfl)
 have z2:wM.heap.size+1<=W2.heap.size:=by have:=hg2.size;simpa using this
 have lv':∀g,v'.ownBlock=some g->g<b2\/wM.heap.size<g:=by
  intro g hg
  rcases hat2 with h|h
  ·exact .inl (lt2 g (by rw[<-h];exact hg))
  ·rw[hg] at h;have h:=Jj h;(try simp at h);right;omega
 have pv':Hid (∀g,v'.ownBlock=some g->P g):=J0 (by
  intro g hg
  rcases hat2 with h|h
  ·exact HP2.out g (by rw[<-h];exact hg)
  ·rw[hg] at h;have h:=Jj h;(try simp at h);exact HPN.out g (by omega))
 clear nf T2 T1 C1 N1 ow2 ow3 R2 HB hg2 hat2 i1 i2 i3 j1 j2 j3 a0 a1 a2 a3 a4 a5 a6 a7 a8 p1 p2 p3 q1 q2 q3
 obtain⟨i1,i2,i3,j1,j2,j3⟩:=T3.f3
 obtain⟨B2',d2',rfl,hd2',hmx2',rd2'⟩:=aL ow2'
 have T4:=aI T3 1 (.slice B2' (m+1) d2')
 have C4:cx (W2.setCell ⟨w.heap.size,1,none⟩ (.slice B2' (m+1) d2')) (w.heap.size+1) c qv 76:=(J5 _ _ _ _ (by show _≠_;simp)).trans C3
 have N4:aD (W2.setCell ⟨w.heap.size,1,none⟩ (.slice B2' (m+1) d2')) (w.heap.size+2) _ 96:=(J5 _ _ _ _ (by show _≠_;simp)).trans N3
 have ow2s:=aN (w1:=W2.setCell ⟨w.heap.size,1,none⟩ (.slice B2' (m+1) d2')) ow2' (fun g hg=>J5 _ _ _ _ (by show g≠w.heap.size;have:=lv' g hg;omega))
 have ow3s:=aN (w1:=W2.setCell ⟨w.heap.size,1,none⟩ (.slice B2' (m+1) d2')) ow3' (fun g hg=>J5 _ _ _ _ (by show g≠w.heap.size;have:=l3 g hg;omega))
 have R4:=R3.below ((Jy b1 W2).setCell (p:=⟨w.heap.size,1,none⟩) (by show b1<=w.heap.size;omega) (.slice B2' (m+1) d2'))
 have HB4:=HB2.setCell (p:=⟨w.heap.size,1,none⟩) (J9 _) (.slice B2' (m+1) d2')
 have z4:Hid (W2.heap.size=(W2.setCell ⟨w.heap.size,1,none⟩ (.slice B2' (m+1) d2')).heap.size):=J0 (by simp)
 have NM:=aA (w:=W2.setCell ⟨w.heap.size,1,none⟩ (.slice B2' (m+1) d2')) (.cells #[.int .i64 (-1),.int .i64 c.d.k,.int .u64 c.d.b,.string c.d.t] 137)
 obtain⟨a0,a1,a2,a3,a4,a5,a6,a7,a8⟩:=C4.c9
 obtain⟨p1,p2,p3,q1,q2,q3⟩:=T4.f3
 obtain⟨s1,s2,s3,u1,u2,u3⟩:=(T4.below NM).f3
 go_wp2_with (at_builtin;refine Y4 _ rfl _ _ 94 rfl b2 137 iM (.agg #[.int .i64 0,.int .i64 0,.int .u64 0,.string ⟨#[]⟩]) 4 40 Tryz.underlying94 hiM hzM0 hzM1 hzM2 rfl (by decide) _ _ _ rfl (aG ow3s NM) ⟨W2.heap.size,0,none⟩ 1 1 [.int .i64 (-1),.int .i64 c.d.k,.int .u64 c.d.b,.string c.d.t] rfl rfl ?c1 ?c2 ?c3 ?c4 ?c5 ?_)
 case c1=>rw[z4.out];exact eR _ _ _ _ _ _
 case c2=>intro u hu;simp at hu;rcases hu with rfl|rfl|rfl|rfl <;> rfl
 case c3=>simp only[maxLen];omega
 case c4=>omega
 case c5=>simp;omega
 intro v'' W5 ow3x hg5 _ hat5
 have T5:=(T4.below NM).grown hg5 (by intro e;have:=l3 _ e.symm;omega)
 have N5:=(N4.below NM).grown hg5 (by intro e;have:=l3 _ e.symm;omega)
 have ow2x:=cY (aG ow2s NM) hg5 (by intro g hg e;have h5:=lv' g hg;have h6:=aF ow3s g e.symm;have h7:=l3 g e.symm;omega)
 have nmz:b1<=(W2.setCell ⟨w.heap.size,1,none⟩ (.slice B2' (m+1) d2')).heap.size:=by rw[<-z4.out];omega
 have R5:=(R4.below (NM.mono nmz)).grown hg5 (by have:=NM.size;omega) (fun g hg=>Q7 h1 (aF ow3s g hg))
 have HB5:=(HB4.seq NM).grown hg5 (.inr rfl)
 have lw':∀g,v''.ownBlock=some g->g<w.heap.size\/wM.heap.size<g:=by
  intro g hg
  rcases hat5 with h|h
  ·exact .inl (l3 g (by rw[<-h];exact hg))
  ·rw[hg] at h;have h:=Jj h;(try simp at h);right;omega
 have pw':Hid (∀g,v''.ownBlock=some g->P g):=J0 (by
  intro g hg
  rcases hat5 with h|h
  ·exact HP3.out g (by rw[<-h];exact hg)
  ·rw[hg] at h;have h:=Jj h;(try simp at h);exact HPN.out g (by omega))
 obtain⟨B3',d3',rfl,hd3',hmx3',rd3'⟩:=aL ow3x
 clear i1 i2 i3 j1 j2 j3 a0 a1 a2 a3 a4 a5 a6 a7 a8 p1 p2 p3 q1 q2 q3 s1 s2 s3 u1 u2 u3
 obtain⟨i1,i2,i3,j1,j2,j3⟩:=T5.f3
 obtain⟨n1,n2,n3,o1,o2,o3⟩:=N5.f3
 go_wp2
 refine Xx (v:=.tuple #[.agg #[.slice B m d,.slice B2' (m+1) d2',.slice B3' (m+1) d3'],.int .i64 0]) (by simp[results,Tryz.results135,go_sem, *];done) rfl ⟨_,_,_,_,_,_,_,_,_,rfl,fun _=>?_,?_⟩
 ·refine nr (t:=⟨l,l++[c.g],kM m++[⟨-1,c.d⟩]⟩) HM.out (gm.rd (R5.below ?_)) HP1.out (ag (aN ow2x fun g hg=>?_) rfl (by simp[aC])) (by simp[HM.out]) pv'.out (ag (aN ow3x fun g hg=>?_) rfl (by simp[aJ])) (by simp[aP]) pw'.out
  ·exact((((Jy b1 W5).setCell (by show b1<=w.heap.size;omega) _).setCell (by show b1<=w.heap.size+2;omega) _).setCell (by show b1<=w.heap.size+2;omega) _).setCell (by show b1<=w.heap.size+2;omega) _
  ·have h:=lv' g hg
   exact(J5 _ _ _ _ (by show g≠w.heap.size+2;omega)).trans ((J5 _ _ _ _ (by show g≠w.heap.size+2;omega)).trans ((J5 _ _ _ _ (by show g≠w.heap.size+2;omega)).trans (J5 _ _ _ _ (by show g≠w.heap.size;omega))))
  ·have h:=lw' g hg
   exact(J5 _ _ _ _ (by show g≠w.heap.size+2;omega)).trans ((J5 _ _ _ _ (by show g≠w.heap.size+2;omega)).trans ((J5 _ _ _ _ (by show g≠w.heap.size+2;omega)).trans (J5 _ _ _ _ (by show g≠w.heap.size;omega))))
 ·exact(((HB5.setCell (J9 _) _).setCell (by show w.heap.size<=w.heap.size+2;omega) _).setCell (by show w.heap.size<=w.heap.size+2;omega) _).setCell (by show w.heap.size<=w.heap.size+2;omega) _
theorem ur {l:List Fd}:∀u∈aC l,u.oneCell'=true:=by
 intro u hu
 simp only[aC,List.mem_flatMap] at hu
 obtain⟨f,_,hu⟩:=hu
 simp at hu
 rcases hu with rfl|rfl|rfl <;> rfl
theorem ut {l:List Mv}:∀u∈aJ l,u.oneCell'=true:=by
 intro u hu
 simp only[aJ,List.mem_flatMap] at hu
 obtain⟨f,_,hu⟩:=hu
 simp at hu
 rcases hu with rfl|rfl|rfl|rfl <;> rfl
theorem lu (l:List Fd) (k:Nat):aC (l.take k)=(aC l).take (k * 3)/\aC (l.drop k)=(aC l).drop (k * 3):=by
 induction l generalizing k with
 |nil=>simp[aC]
 |cons f r ih=>
  cases k with
  |zero=>simp[aC]
  |succ k=>
   have e:aC (f :: r)=[.string f.s,.int .i64 f.k,.int .i64 f.l]++aC r:=by simp[aC]
   have e2:aC (f :: r.take k)=[.string f.s,.int .i64 f.k,.int .i64 f.l]++aC (r.take k):=by simp[aC]
   obtain⟨h1,h2⟩:=ih k
   rw[List.take_succ_cons,List.drop_succ_cons,e,e2,h1,h2,show(k+1) * 3=k * 3+1+1+1 by omega]
   simp
theorem lw (l:List Mv) (k:Nat):aJ (l.take k)=(aJ l).take (k * 4)/\aJ (l.drop k)=(aJ l).drop (k * 4):=by
 induction l generalizing k with
 |nil=>simp[aJ]
 |cons f r ih=>
  cases k with
  |zero=>simp[aJ]
  |succ k=>
   have e:aJ (f :: r)=[.int .i64 f.f,.int .i64 f.d.k,.int .u64 f.d.b,.string f.d.t]++aJ r:=by simp[aJ]
   have e2:aJ (f :: r.take k)=[.int .i64 f.f,.int .i64 f.d.k,.int .u64 f.d.b,.string f.d.t]++aJ (r.take k):=by simp[aJ]
   obtain⟨h1,h2⟩:=ih k
   rw[List.take_succ_cons,List.drop_succ_cons,e,e2,h1,h2,show(k+1) * 4=k * 4+1+1+1+1 by omega]
   simp
theorem qh (l:List Fd) (k:Nat):aC (l.eraseIdx k)=(aC l).take (k * 3)++(aC l).drop ((k+1) * 3):=by
 rw[List.eraseIdx_eq_take_drop_succ,eB,(lu l k).1,(lu l (k+1)).2]
theorem qi (l:List Mv) (k:Nat):aJ (l.eraseIdx k)=(aJ l).take (k * 4)++(aJ l).drop ((k+1) * 4):=by
 rw[List.eraseIdx_eq_take_drop_succ,bu,(lw l k).1,(lw l (k+1)).2]
theorem ju (l:List Fd) (k:Nat) (f g:Fd) (hf:l[k]?=some f):aC (l.set k g)=(((aC l).set (k * 3) (.string g.s)).set (k * 3+1) (.int .i64 g.k)).set (k * 3+2) (.int .i64 g.l):=by
 induction l generalizing k with
 |nil=>simp at hf
 |cons x r ih=>
  have e:aC (x :: r)=[.string x.s,.int .i64 x.k,.int .i64 x.l]++aC r:=by simp[aC]
  cases k with
  |zero=>simp[aC]
  |succ k=>
   have e2:aC (x :: r.set k g)=[.string x.s,.int .i64 x.k,.int .i64 x.l]++aC (r.set k g):=by simp[aC]
   rw[J2,e2,ih k (by simpa using hf),e,show(k+1) * 3=k * 3+1+1+1 by omega]
   simp only[List.cons_append,List.nil_append,J2]
theorem ew {w:EQ} {base g n c:Nat} {T:ES} {K:Nat} {xs:EO} (h:w.ownsRow base T K (.slice (some ⟨g,0,none⟩) n c) n xs) (j:Nat) (v:ER):(w.setCell ⟨g,j,none⟩ v).ownsRow base T K (.slice (some ⟨g,0,none⟩) n c) n (xs.set j v):=by
 obtain⟨h1,h2⟩:=h
 refine⟨by simp[h1],?_⟩
 rcases h2 with ⟨h,_⟩|⟨g',c',cur,hv,hb,hg,hc,hm,hs,ht⟩
 ·cases h
 ·cases hv
  have h3:(w.setCell ⟨g,j,none⟩ v).heap[g]?=some (.cells (cur.setIfInBounds j v) T (0,0)):=by
   obtain⟨hlt,hk⟩:=Qq.1 hg
   show(w.heap.modify g _)[g]?=_
   rw[Array.getElem?_eq_getElem (by rw[Array.size_modify];exact hlt),Array.getElem_modify_self,hk]
   simp
  refine .inr ⟨g,c,_,rfl,hb,h3,hc,hm,by simp[hs],?_⟩
  rw[Array.toList_setIfInBounds,List.take_set,ht]
theorem ce {w:EQ} {base n:Nat} {T:ES} {K:Nat} {v:ER} {xs:EO} (h:w.ownsRow base T K v n xs) (hn:0<n):∃g c,v=.slice (some ⟨g,0,none⟩) n c/\base<=g/\g<w.heap.size/\n<=c/\c<=maxLen/\∀j u,xs[j]?=some u->w.cell? ⟨g,j,none⟩=some u/\w.frozen? ⟨g,j,none⟩=false:=by
 obtain⟨h1,h2⟩:=h
 rcases h2 with ⟨_,h⟩|⟨g,c,cur,rfl,hb,hg,hc,hm,hs,ht⟩
 ·omega
 ·refine⟨g,c,rfl,hb,(Qq.1 hg).1,hc,hm,fun j u hj=>⟨?_,by simp[World.frozen?,hg]⟩⟩
  rw[<-ht,X7] at hj
  split at hj
  ·simp only[World.cell?,hg];simpa using hj
  ·cases hj
theorem ep {w:EQ} (g o:Nat) (v:ER):w.grownBy (w.setCell ⟨g,o,none⟩ v) (some g):=⟨rfl,rfl,rfl,by simp[World.setCell],fun k hk hne=>J5 _ _ _ _ (by rintro rfl;exact hne rfl)⟩
theorem Bs (l:List Fd) (c:Ch) (m:Nat) (hm:l.length=m) (h16:m<=16) (B:EL) (d b1 b2:Nat) (v2 v3 qv:ER) (w:EQ) (h1:b1<=b2) (h2:b2<=w.heap.size) (R1:gm b1 w B (aC l)) (own2:w.ownsRow b1 68 3 v2 m (aC l)) (lt2:cO b2 v2) (own3:w.ownsRow b2 137 4 v3 m (aJ (kM m))) (P:Nat->Prop) (hP1:∀ad,B=some ad->P ad.block) (hP2:∀g,v2.ownBlock=some g->P g) (hP3:∀g,v3.ownBlock=some g->P g) (hPn:∀g,w.heap.size<=g->P g) (k:Nat) (hk:k<m):
 Calls Tryz.prog 137 #[.agg #[.slice B m d,v2,v3],.agg #[.int .i64 c.op,.string c.s,.string c.g.s,.int .i64 c.g.k,.int .i64 c.g.l,.int .i64 c.d.k,.int .u64 c.d.b,.string c.d.t,qv],.int .i64 k] w fun e w'=>dZ v2.ownBlock v3.ownBlock P ⟨l,l.eraseIdx k,(kM m).eraseIdx k⟩ 0 w e w':=by
 obtain⟨N,rfl⟩:∃N,m=N+1:=⟨m - 1,by omega⟩
 obtain⟨g2,d2,rfl,gb2,gz2,hd2,hmx2,rd2⟩:=ce own2 (by omega)
 obtain⟨g3,d3,rfl,gb3,gz3,hd3,hmx3,rd3⟩:=ce own3 (by omega)
 have g23:g2<b2:=lt2 g2 rfl
 obtain⟨T1,C1,N1,HB⟩:=cQ (.slice B (N+1) d) (.slice (some ⟨g2,0,none⟩) (N+1) d2) (.slice (some ⟨g3,0,none⟩) (N+1) d3) c qv w
 obtain⟨i1,i2,i3,j1,j2,j3⟩:=T1.f3
 obtain⟨n1,n2,n3,o1,o2,o3⟩:=N1.f3
 obtain⟨a0,a1,a2,a3,a4,a5,a6,a7,a8⟩:=C1.c9
 have HM:=J0 hm
 have HP1:=J0 hP1
 have HP2:=J0 hP2
 have HP3:=J0 hP3
 have HPN:=J0 hPn
 clear hm hP1 hP2 hP3 hPn
 have ow2:=aG own2 HB
 have ow3:=aG own3 HB
 have R2:=R1.below (HB.mono (Q7 h1 h2))
 have hkn:k<=N:=by omega
 have hk1:(k:Int)+1<=17:=by omega
 have zz:=N1.lt
 clear own2 own3 R1 C1 a0 a1 a2 a3 a4 a5 a6 a7 a8 rd2 rd3
 go_enter Tryz.func137,Tryz.ntmps137
 go_wp2_with (go_at_call 162;refine(xN b1 g2 d2 N k _ _ ow2 ur hkn).mono ?_)
 rintro e W2 ⟨rfl,ox2,gr2⟩
 have HB2:aO (some g2) (some g3) w W2:=(aO.of HB).grown gr2 (.inl rfl)
 have T2:=T1.grown gr2 (by intro e;cases e;omega)
 have N2:=N1.grown gr2 (by intro e;cases e;omega)
 have ox3:=cY ow3 gr2 (by intro g hg e;cases e;have:=aF ow3 g2 hg;omega)
 have R3:=R2.grown gr2 (by have:=HB.size;omega) (fun g hg=>by cases hg;exact gb2)
 have z2:=gr2.size
 clear ow2 ow3 R2 HB T1 N1 gr2 i1 i2 i3 j1 j2 j3 n1 n2 n3 o1 o2 o3
 obtain⟨i1,i2,i3,j1,j2,j3⟩:=T2.f3
 have T3:=aI T2 1 (.slice (some ⟨g2,0,none⟩) N d2)
 have N3:aD (W2.setCell ⟨w.heap.size,1,none⟩ (.slice (some ⟨g2,0,none⟩) N d2)) (w.heap.size+2) _ 96:=(J5 _ _ _ _ (by show _≠_;simp)).trans N2
 have oy2:=aN (w1:=W2.setCell ⟨w.heap.size,1,none⟩ (.slice (some ⟨g2,0,none⟩) N d2)) ox2 (fun g hg=>J5 _ _ _ _ (by cases hg;show g2≠w.heap.size;omega))
 have oy3:=aN (w1:=W2.setCell ⟨w.heap.size,1,none⟩ (.slice (some ⟨g2,0,none⟩) N d2)) ox3 (fun g hg=>J5 _ _ _ _ (by cases hg;show g3≠w.heap.size;omega))
 have R4:=R3.below ((Jy b1 W2).setCell (p:=⟨w.heap.size,1,none⟩) (by show b1<=w.heap.size;omega) (.slice (some ⟨g2,0,none⟩) N d2))
 have HB3:=HB2.setCell (p:=⟨w.heap.size,1,none⟩) (J9 _) (.slice (some ⟨g2,0,none⟩) N d2)
 have z3:(W2.setCell ⟨w.heap.size,1,none⟩ (.slice (some ⟨g2,0,none⟩) N d2)).heap.size=W2.heap.size:=by simp
 obtain⟨p1,p2,p3,q1,q2,q3⟩:=T3.f3
 go_wp2_with (go_at_call 163;refine(xP b2 g3 d3 N k _ _ oy3 ut hkn).mono ?_)
 rintro e W5 ⟨rfl,oz3,gr5⟩
 have HB5:=HB3.grown gr5 (.inr rfl)
 have T5:=T3.grown gr5 (by intro e;cases e;omega)
 have N5:=N3.grown gr5 (by intro e;cases e;omega)
 have oz2:=cY oy2 gr5 (by intro g hg e;have e1:g2=g:=Jj hg;have e2:=Jj e;omega)
 have R5:=R4.grown gr5 (by omega) (fun g hg=>by have hh:=Jj hg;omega)
 clear i1 i2 i3 j1 j2 j3 p1 p2 p3 q1 q2 q3
 obtain⟨i1,i2,i3,j1,j2,j3⟩:=T5.f3
 obtain⟨n1,n2,n3,o1,o2,o3⟩:=N5.f3
 go_wp2
 refine Xx (v:=.tuple #[.agg #[.slice B (N+1) d,.slice (some ⟨g2,0,none⟩) N d2,.slice (some ⟨g3,0,none⟩) N d3],.int .i64 0]) (by simp[results,Tryz.results137,go_sem, *];done) rfl ⟨_,_,_,_,_,_,_,_,_,rfl,fun _=>?_,?_⟩
 ·refine nr (t:=⟨l,l.eraseIdx k,(kM (N+1)).eraseIdx k⟩) HM.out (gm.rd (R5.below ?_)) HP1.out (ag (aN oz2 fun g hg=>?_) rfl (qh l k).symm) (by show(l.eraseIdx k).length=N;rw[List.length_eraseIdx_of_lt (by rw[HM.out];exact hk),HM.out];rfl) (fun g hg=>HP2.out g hg) (ag (aN oz3 fun g hg=>?_) rfl (qi _ k).symm) (by show((kM (N+1)).eraseIdx k).length=N;rw[List.length_eraseIdx_of_lt (by rw[aP];exact hk),aP];rfl) (fun g hg=>HP3.out g hg)
  ·exact((((Jy b1 W5).setCell (by show b1<=w.heap.size;omega) _).setCell (by show b1<=w.heap.size+2;omega) _).setCell (by show b1<=w.heap.size+2;omega) _).setCell (by show b1<=w.heap.size+2;omega) _
  ·cases hg
   exact(J5 _ _ _ _ (by show g2≠w.heap.size+2;omega)).trans ((J5 _ _ _ _ (by show g2≠w.heap.size+2;omega)).trans ((J5 _ _ _ _ (by show g2≠w.heap.size+2;omega)).trans (J5 _ _ _ _ (by show g2≠w.heap.size;omega))))
  ·cases hg
   exact(J5 _ _ _ _ (by show g3≠w.heap.size+2;omega)).trans ((J5 _ _ _ _ (by show g3≠w.heap.size+2;omega)).trans ((J5 _ _ _ _ (by show g3≠w.heap.size+2;omega)).trans (J5 _ _ _ _ (by show g3≠w.heap.size;omega))))
 ·exact(((HB5.setCell (J9 _) _).setCell (by show w.heap.size<=w.heap.size+2;omega) _).setCell (by show w.heap.size<=w.heap.size+2;omega) _).setCell (by show w.heap.size<=w.heap.size+2;omega) _
end
end Go.Proofs.YteembinfgbapgaaGreat
