/- Merged out of: Wc Na Nb Nc. -/
import Derived.Test.YteembinfgbapgaaGreatC00
import Derived.Test.YteembinfgbapgaaGreatC10
import Derived.Test.YteembinfgbapgaaGreatC13
set_option linter.unusedSimpArgs false
set_option linter.unusedVariables false
set_option maxRecDepth 100000
set_option maxHeartbeats 8000000
namespace Go.Proofs.YteembinfgbapgaaGreat
section
open Go.RowKit
theorem fBits_lt64 (s:Bool) (m:Nat) (h:m<18446744073709551616):fBits s m<18446744073709551616:=by
 refine fBits_lt _ _ ?_
 by_cases h0:m=0
 ·subst h0;decide
 ·have:=(Nat.log2_lt (n:=m) (k:=64) h0).2 (by omega);omega
theorem castZ_bd (bits k k2:Int) (h0:0≤bits) (h1:bits<18446744073709551616):0≤castZ bits k k2∧castZ bits k k2<18446744073709551616:=by
 unfold castZ
 split
 ·have:=fBits_lt64 false bits.toNat (by omega);omega
 ·split
  ·split
   ·have:=fBits_lt64 true (18446744073709551616 - bits).toNat (by omega);omega
   ·have:=fBits_lt64 false bits.toNat (by omega);omega
  ·split <;> omega
theorem fits_up {n w w2:Int} {s s2:Bool} (h0:0≤n) (h1:n<18446744073709551616) (hw2:widthB w2=true) (hlt:w<w2) (hs:s=true→s2=true) (h:fitsB n w s=true):fitsB n w2 s2=true:=by
 simp only[fitsB,Qy] at h ⊢
 refine⟨hw2,?_⟩
 obtain⟨hw,h⟩:=h
 have hc:=width_cases hw
 have hc2:=width_cases hw2
 have key:(s2=true∧signZ n w2=n)∨(s2=false∧n<topZ w2):=by
  cases s2
  ·have:s=false:=by cases s;rfl;exact absurd (hs rfl) (by simp)
   subst this
   simp at h
   refine .inr ⟨rfl,?_⟩
   rcases hc with rfl|rfl|rfl|rfl <;> rcases hc2 with rfl|rfl|rfl|rfl <;> simp[topZ] at h ⊢ <;> omega
  ·refine .inl ⟨rfl,?_⟩
   cases s
   ·simp at h
    rcases hc with rfl|rfl|rfl|rfl <;> rcases hc2 with rfl|rfl|rfl|rfl <;> simp[topZ] at h <;> first|omega|(first|rw[signZ_arith2 n h0 h1]|rw[signZ_arith4 n h0 h1]|rw[signZ_8 n h0 h1]) <;> (try split) <;> omega
   ·simp at h
    rcases hc with rfl|rfl|rfl|rfl <;> rcases hc2 with rfl|rfl|rfl|rfl <;> first|omega|(first|rw[signZ_arith2 n h0 h1]|rw[signZ_arith4 n h0 h1]|rw[signZ_8 n h0 h1]) <;> (first|rw[signZ_arith1 n h0 h1] at h|rw[signZ_arith2 n h0 h1] at h|rw[signZ_arith4 n h0 h1] at h|skip) <;> (repeat' split at h) <;> (try split) <;> omega
 rcases key with ⟨rfl,h⟩|⟨rfl,h⟩
 ·simpa using h
 ·simpa using h
theorem long_width {k:Int} (h:mayB k 0=true) (hk:¬k=12):widthB (longZ k 0)=true:=by
 have:=long_cases h hk
 simp[widthB];omega
theorem bit_fits {n w:Int} {s:Bool} (h0:0≤n) (h:n≤1) (hw:widthB w=true):fitsB n w s=true:=by
 simp only[fitsB,Qy]
 refine⟨hw,?_⟩
 have hc:=width_cases hw
 have hn:n=0∨n=1:=by omega
 cases s
 ·simp
  rcases hc with rfl|rfl|rfl|rfl <;> simp[topZ] <;> omega
 ·simp
  rcases hn with rfl|rfl <;> rcases hc with rfl|rfl|rfl|rfl <;> decide
theorem long_may {k l:Int} (h:¬longZ k l=0):mayB k l=true:=by
 cases hm:mayB k l
 ·exact absurd (by rw[longZ,hm];rfl) h
 ·rfl
theorem cast_right {vk bits:Int} {tx:ByteArray} {k l k2 l2:Int} (h0:0≤bits) (h1:bits<18446744073709551616) (hr:rightB vk bits tx k l=true) (hc:castsB k l k2 l2=true):
 rightB k2 (castZ bits k k2) (castT tx k2 l2) k2 l2=true∧((castT tx k2 l2).size:Int)=l2:=by
 obtain⟨hm,rfl,ht,hf⟩:=right_may hr
 clear hr
 have hm2:mayB k2 l2=true:=by
  unfold castsB at hc
  split at hc
  ·cases hc
  ·rename_i hz
   exact long_may fun e=>hz (.inr e)
 by_cases hk:k2=12
 ·subst hk
  obtain⟨rfl,-⟩:=casts_12 hc
  have hb:=mayB_12▸hm2
  have hb:=btw_iff.1 hb
  have hs:((castT tx 12 l2).size:Int)=l2:=by rw[castT,if_pos rfl,strL_size,padL_length];omega
  refine⟨?_,hs⟩
  have e:castZ bits 12 12=bits:=by simp[castZ]
  have hf':fitB bits 12 l2=true:=by simpa[fitB] using hf
  rw[e]
  simp only[rightB,hm2,hs,hf',if_true,decide_true,Bool.and_true,Bool.true_and]
 ·have hl2:l2=0:=(mayB_of hm2 hk).1
  subst hl2
  have hT:castT tx k2 0=⟨#[]⟩:=by rw[castT,if_neg hk]
  rw[hT]
  refine⟨?_,rfl⟩
  have goal:fitB (castZ bits vk k2) k2 0=true→rightB k2 (castZ bits vk k2) ⟨#[]⟩ k2 0=true:=fun h=>by
   simp only[rightB,hm2,h,decide_true,Bool.and_true,Bool.true_and,if_neg hk]
   rfl
  apply goal
  have hw2:=long_width hm2 hk
  by_cases h10:k2=10∨k2=11
  ·rcases h10 with rfl|rfl <;> simp[fitB]
  ·have hne:¬(k2=10∧btw 1 vk 4=true):=fun h=>h10 (.inl h.1)
   have hne2:¬(k2=10∧btw 5 vk 8=true):=fun h=>h10 (.inl h.1)
   by_cases h8:k2=8∧vk=10
   ·obtain⟨rfl,rfl⟩:=h8
    have e:castZ bits 10 8=wholeZ bits.toNat % 18446744073709551616:=by simp[castZ]
    rw[e,fitB,if_neg (by decide),if_neg (by decide),show longZ 8 0=8 by decide,show btw 5 8 8=true by decide]
    simp[fitsB,widthB,signZ_8 (wholeZ bits.toNat % 18446744073709551616) (by omega) (by omega)]
   ·have e:castZ bits vk k2=bits:=by rw[castZ,if_neg hne,if_neg hne2,if_neg h8]
    rw[e]
    by_cases hkk:vk=k2
    ·subst hkk
     have:l=0:=(mayB_of hm hk).1
     subst this
     exact hf
    ·unfold castsB at hc
     rw[if_neg hkk] at hc
     split at hc
     ·cases hc
     ·have h12:¬vk=12:=fun h=>by
       subst h
       rw[if_neg (by decide),if_neg (by decide),if_neg (by decide)] at hc
       simp at hc
      obtain⟨rfl,-⟩:=mayB_of hm h12
      split at hc
      ·rename_i h9
       subst h9
       have hb1:bits≤1:=by simpa[fitB] using hf
       rw[fitB,if_neg hk]
       split
       ·simpa using hb1
       ·rw[bit_fits h0 hb1 hw2];rfl
      ·rename_i h9
       have hk9:¬k2=9:=fun h=>by
        subst h
        split at hc
        ·simp[btw] at hc
        ·split at hc
         ·simp[btw] at hc
         ·simp at hc
       have hd10:decide (k2=10)=false:=by simp;omega
       split at hc
       ·rename_i h14
        have hb:=btw_iff.1 h14
        rw[hd10,Bool.or_false,Qy,decide_eq_true_eq] at hc
        have hf':fitsB bits (longZ vk 0) (btw 5 vk 8)=true:=by
         rw[fitB,if_neg h12,if_neg h9] at hf
         simpa[show ¬vk=10 by omega,show ¬vk=11 by omega] using hf
        have h5:btw 5 vk 8=false:=by rw[btw_not];omega
        rw[fitB,if_neg hk,if_neg hk9,fits_up h0 h1 hw2 hc.2 (by rw[h5];simp) hf'];rfl
       ·split at hc
        ·rename_i h58
         rw[hd10,Bool.or_false,Qy,decide_eq_true_eq] at hc
         have hb:=btw_iff.1 h58
         have hf':fitsB bits (longZ vk 0) (btw 5 vk 8)=true:=by
          rw[fitB,if_neg h12,if_neg h9] at hf
          simpa[show ¬vk=10 by omega,show ¬vk=11 by omega] using hf
         rw[fitB,if_neg hk,if_neg hk9,fits_up h0 h1 hw2 hc.2 (by intro _;exact hc.1) hf'];rfl
        ·simp at hc;omega
structure Ch where
 op:Int
 s:ByteArray
 g:Fd
 d:Vl
 q:List Int
def rng (n:Nat):List Int:=(List.range n).map fun k:Nat=>(k:Int)
theorem rng_succ (n:Nat):rng (n+1)=rng n++[(n:Int)]:=by simp[rng,List.range_succ]
theorem rng_length (n:Nat):(rng n).length=n:=by simp[rng]
theorem mem_rng {n:Nat} {x:Int}:x∈rng n↔0≤x∧x<n:=by
 simp only[rng,X5,List.mem_range]
 constructor
 ·rintro ⟨k,hk,rfl⟩;omega
 ·rintro ⟨h0,h1⟩;exact⟨x.toNat,by omega,by omega⟩
def permB (q:List Int) (n:Nat):Bool:=decide (q.Perm (rng n))
theorem perm_of_all (n:Nat):∀q:List Int,q.length=n→(∀k:Nat,k<n→(k:Int)∈q)→q.Perm (rng n):=by
 induction n with
 |zero=>intro q hq _;rw[List.eq_nil_of_length_eq_zero hq];exact List.Perm.refl _
 |succ n ih=>
  intro q hq h
  have hn:=h n (by omega)
  have h1:=List.perm_cons_erase hn
  have h2:=ih (q.erase n) (by rw[List.length_erase_of_mem hn];omega) (fun k hk=>(List.mem_erase_of_ne (by omega)).2 (h k (by omega)))
  rw[rng_succ]
  exact h1.trans ((List.Perm.cons _ h2).trans (List.perm_append_singleton _ _).symm)
theorem perm_mem {q:List Int} {n:Nat} (h:permB q n=true) {x:Int} (hx:x∈q):0≤x∧x<n:=mem_rng.1 ((of_decide_eq_true h).mem_iff.1 hx)
theorem perm_len {q:List Int} {n:Nat} (h:permB q n=true):q.length=n:=by rw[(of_decide_eq_true h).length_eq,rng_length]
def atC (l:List Fd) (c:Ch):Nat:=(findZ l c.s).toNat
def newF (l:List Fd) (c:Ch):List Fd:=
 if c.op=1 then l++[c.g]
 else if c.op=2 then l.eraseIdx (atC l c)
 else if c.op=3 then l.modify (atC l c) fun f=>⟨c.g.s,f.k,f.l⟩
 else if c.op=4 then l.modify (atC l c) fun f=>⟨f.s,c.g.k,c.g.l⟩
 else c.q.map fun n=>(l[n.toNat]?).getD Fd.z
def newM (l:List Fd) (c:Ch):List Mv:=
 if c.op=1 then kM l.length++[⟨-1,c.d⟩]
 else if c.op=2 then(kM l.length).eraseIdx (atC l c)
 else if c.op=5 then c.q.map fun n=>⟨n,Vl.z⟩
 else kM l.length
def castsAt (l:List Fd) (c:Ch):Bool:=match l[atC l c]? with|some f=>castsB f.k f.l c.g.k c.g.l|none=>false
def okVal (c:Ch):Bool:=rightB c.d.k c.d.b c.d.t c.g.k c.g.l && (decide (c.g.k≠11) || decide (c.d.b=0))
def stepE (l:List Fd) (c:Ch):Int:=
 if rightF l=false then 60
 else if ¬(1≤c.op∧c.op≤5) then 80
 else if 2≤c.op∧c.op≤4∧findZ l c.s<0 then 61
 else if c.op=1∧okVal c=false then 80
 else if c.op=4∧castsAt l c=false then 80
 else if c.op=5∧permB c.q l.length=false then 80
 else 0
def tabC (l:List Fd) (c:Ch):Tb:=⟨l,newF l c,newM l c⟩
def Tb.z:Tb:=⟨[],[],[]⟩
def makeE (l:List Fd) (c:Ch):Int:=if stepE l c=0 then(if rightF (newF l c)=true then 0 else 80) else stepE l c
def makeT (l:List Fd) (c:Ch):Tb:=if makeE l c=0 then tabC l c else Tb.z
theorem casts_refl {k l:Int} (h:mayB k l=true):castsB k l k l=true:=by
 have:¬longZ k l=0:=by rw[long_zero];simp[h]
 simp[castsB,this]
theorem rightF_at {l:List Fd} (h:rightF l=true) {j:Nat} {f:Fd} (hf:l[j]?=some f):castsB f.k f.l f.k f.l=true:=casts_refl (rightF_ok h hf).2.1
theorem okMv_keep {o:List Fd} {g f:Fd} {i:Int} (h0:0≤i) (hf:o[i.toNat]?=some f) (hc:castsB f.k f.l g.k g.l=true):okMv o g ⟨i,Vl.z⟩=true:=by
 rw[okMv,if_neg (by show ¬i=-1;omega)]
 simp[h0,hf,hc]
theorem kM_get {n j:Nat} (h:j<n):(kM n)[j]?=some ⟨(j:Int),Vl.z⟩:=by simp[kM,h]
theorem okAt_mk {t:Tb} {k:Nat} {m:Mv} {g:Fd} (hm:t.m[k]?=some m) (hg:t.n[k]?=some g):okAt t k=okMv t.o g m:=by simp[okAt,hm,hg]
theorem rightT_iff {t:Tb}:rightT t=true↔rightF t.o=true∧rightF t.n=true∧t.m.length=t.n.length∧∀k,k<t.m.length→okAt t k=true:=by
 simp only[rightT,Qy,decide_eq_true_eq,and_assoc]
theorem keep_right {l:List Fd} (h:rightF l=true):rightT ⟨l,l,kM l.length⟩=true:=by
 rw[rightT_iff]
 refine⟨h,h,kM_length _,fun k hk=>?_⟩
 rw[kM_length] at hk
 have hf:l[k]?=some (l[k]'hk):=J4 hk
 rw[okAt_mk (kM_get hk) hf]
 exact okMv_keep (by omega) (by rw[Int.toNat_natCast];exact hf) (rightF_at h hf)
theorem keepT_right {l:List Fd} (h:rightF l=true):keepT l=⟨l,l,kM l.length⟩:=by rw[keepT,if_pos h];rfl
theorem atC_lt {l:List Fd} {c:Ch} (h:¬findZ l c.s<0):atC l c<l.length:=by
 have:=findZ_ge l c.s;unfold atC;omega
theorem tabC_ok {l:List Fd} {c:Ch} (hr:rightF l=true) (h1:1≤c.op∧c.op≤5) (h2:2≤c.op∧c.op≤4→¬findZ l c.s<0) (h4:c.op=4→castsAt l c=true) (h5:c.op=5→permB c.q l.length=true):
 (newM l c).length=(newF l c).length∧∀k,k<(newM l c).length→okAt (tabC l c) k=(if c.op=1∧k=l.length then okVal c else true):=by
 rcases(by omega:c.op=1∨c.op=2∨c.op=3∨c.op=4∨c.op=5) with e|e|e|e|e
 ·have eF:newF l c=l++[c.g]:=by simp[newF,e]
  have eM:newM l c=kM l.length++[⟨-1,c.d⟩]:=by simp[newM,e]
  refine⟨by rw[eF,eM];simp[kM_length],fun k hk=>?_⟩
  rw[eM] at hk
  simp[kM_length] at hk
  by_cases hl:k=l.length
  ·rw[if_pos ⟨e,hl⟩,okAt_mk (t:=tabC l c) (m:=⟨-1,c.d⟩) (g:=c.g) (by show(newM l c)[k]?=_;rw[eM,Q8 (by rw[kM_length];omega)];simp[kM_length,hl]) (by show(newF l c)[k]?=_;rw[eF];simp[hl])]
   rw[okMv,if_pos rfl];rfl
  ·rw[if_neg (fun h=>hl h.2)]
   have hk':k<l.length:=by omega
   have hf:l[k]?=some (l[k]'hk'):=J4 hk'
   rw[okAt_mk (t:=tabC l c) (m:=⟨k,Vl.z⟩) (g:=l[k]'hk') (by show(newM l c)[k]?=_;rw[eM,Xk (by rw[kM_length];omega)];exact kM_get hk') (by show(newF l c)[k]?=_;rw[eF,Xk hk'];exact hf)]
   exact okMv_keep (by omega) (by show l[((k:Nat):Int).toNat]?=_;rw[Int.toNat_natCast];exact hf) (rightF_at hr hf)
 ·have hx:=atC_lt (h2 (by omega))
  have eF:newF l c=l.eraseIdx (atC l c):=by simp[newF,e]
  have eM:newM l c=(kM l.length).eraseIdx (atC l c):=by simp[newM,e]
  refine⟨by rw[eF,eM,List.length_eraseIdx_of_lt (by rw[kM_length];exact hx),List.length_eraseIdx_of_lt hx,kM_length],fun k hk=>?_⟩
  rw[eM,List.length_eraseIdx_of_lt (by rw[kM_length];exact hx),kM_length] at hk
  rw[if_neg (by rintro ⟨h,_⟩;omega)]
  by_cases hl:k<atC l c
  ·have hk':k<l.length:=by omega
   have hf:l[k]?=some (l[k]'hk'):=J4 hk'
   rw[okAt_mk (t:=tabC l c) (m:=⟨k,Vl.z⟩) (g:=l[k]'hk') (by show(newM l c)[k]?=_;rw[eM,List.getElem?_eraseIdx,if_pos hl];exact kM_get hk') (by show(newF l c)[k]?=_;rw[eF,List.getElem?_eraseIdx,if_pos hl];exact hf)]
   exact okMv_keep (by omega) (by show l[((k:Nat):Int).toNat]?=_;rw[Int.toNat_natCast];exact hf) (rightF_at hr hf)
  ·have hk':k+1<l.length:=by omega
   have hf:l[k+1]?=some (l[k+1]'hk'):=J4 hk'
   rw[okAt_mk (t:=tabC l c) (m:=⟨((k+1:Nat):Int),Vl.z⟩) (g:=l[k+1]'hk') (by show(newM l c)[k]?=_;rw[eM,List.getElem?_eraseIdx,if_neg hl];exact kM_get hk') (by show(newF l c)[k]?=_;rw[eF,List.getElem?_eraseIdx,if_neg hl];exact hf)]
   exact okMv_keep (by omega) (by show l[((k+1:Nat):Int).toNat]?=_;rw[Int.toNat_natCast];exact hf) (rightF_at hr hf)
 ·have hx:=atC_lt (h2 (by omega))
  have eF:newF l c=l.modify (atC l c) fun f=>⟨c.g.s,f.k,f.l⟩:=by simp[newF,e]
  have eM:newM l c=kM l.length:=by simp[newM,e]
  refine⟨by rw[eF,eM,List.length_modify,kM_length],fun k hk=>?_⟩
  rw[eM,kM_length] at hk
  rw[if_neg (by rintro ⟨h,_⟩;omega)]
  have hf:l[k]?=some (l[k]'hk):=J4 hk
  obtain⟨g,hg,g1,g2⟩:∃g,(newF l c)[k]?=some g∧g.k=(l[k]'hk).k∧g.l=(l[k]'hk).l:=by
   rw[eF,List.getElem?_modify,hf]
   by_cases hl:atC l c=k
   ·exact⟨⟨c.g.s,(l[k]'hk).k,(l[k]'hk).l⟩,by simp[hl],rfl,rfl⟩
   ·exact⟨l[k]'hk,by simp[hl],rfl,rfl⟩
  rw[okAt_mk (t:=tabC l c) (m:=⟨k,Vl.z⟩) (g:=g) (by show(newM l c)[k]?=_;rw[eM];exact kM_get hk) hg]
  exact okMv_keep (by omega) (by show l[((k:Nat):Int).toNat]?=_;rw[Int.toNat_natCast];exact hf) (by rw[g1,g2];exact rightF_at hr hf)
 ·have hx:=atC_lt (h2 (by omega))
  have eF:newF l c=l.modify (atC l c) fun f=>⟨f.s,c.g.k,c.g.l⟩:=by simp[newF,e]
  have eM:newM l c=kM l.length:=by simp[newM,e]
  refine⟨by rw[eF,eM,List.length_modify,kM_length],fun k hk=>?_⟩
  rw[eM,kM_length] at hk
  rw[if_neg (by rintro ⟨h,_⟩;omega)]
  have hf:l[k]?=some (l[k]'hk):=J4 hk
  obtain⟨g,hg,hc⟩:∃g,(newF l c)[k]?=some g∧castsB (l[k]'hk).k (l[k]'hk).l g.k g.l=true:=by
   rw[eF,List.getElem?_modify,hf]
   by_cases hl:atC l c=k
   ·refine⟨⟨(l[k]'hk).s,c.g.k,c.g.l⟩,by simp[hl],?_⟩
    have:=h4 e
    rw[castsAt,hl,hf] at this
    exact this
   ·exact⟨l[k]'hk,by simp[hl],rightF_at hr hf⟩
  rw[okAt_mk (t:=tabC l c) (m:=⟨k,Vl.z⟩) (g:=g) (by show(newM l c)[k]?=_;rw[eM];exact kM_get hk) hg]
  exact okMv_keep (by omega) (by show l[((k:Nat):Int).toNat]?=_;rw[Int.toNat_natCast];exact hf) hc
 ·have eF:newF l c=c.q.map fun n=>(l[n.toNat]?).getD Fd.z:=by simp[newF,e]
  have eM:newM l c=c.q.map fun n=>⟨n,Vl.z⟩:=by simp[newM,e]
  refine⟨by rw[eF,eM,Kz,Kz],fun k hk=>?_⟩
  rw[eM,Kz] at hk
  rw[if_neg (by rintro ⟨h,_⟩;omega)]
  have hq:c.q[k]?=some (c.q[k]'hk):=J4 hk
  obtain⟨b0,b1⟩:=perm_mem (h5 e) (List.getElem_mem hk)
  have hk':(c.q[k]'hk).toNat<l.length:=by omega
  have hf:l[(c.q[k]'hk).toNat]?=some (l[(c.q[k]'hk).toNat]'hk'):=J4 hk'
  rw[okAt_mk (t:=tabC l c) (m:=⟨c.q[k]'hk,Vl.z⟩) (g:=l[(c.q[k]'hk).toNat]'hk') (by show(newM l c)[k]?=_;rw[eM,Kv,hq];rfl) (by show(newF l c)[k]?=_;rw[eF,Kv,hq];simp[hf])]
  exact okMv_keep b0 hf (rightF_at hr hf)
theorem tabC_right {l:List Fd} {c:Ch} (hr:rightF l=true) (h1:1≤c.op∧c.op≤5) (h2:2≤c.op∧c.op≤4→¬findZ l c.s<0) (h4:c.op=4→castsAt l c=true) (h5:c.op=5→permB c.q l.length=true):
 rightT (tabC l c)=(rightF (newF l c) && (decide (c.op≠1) || okVal c)):=by
 obtain⟨hlen,hok⟩:=tabC_ok hr h1 h2 h4 h5
 rw[Qx,rightT_iff,Qy,Bool.or_eq_true,decide_eq_true_eq]
 constructor
 ·rintro ⟨_,h,_,ha⟩
  refine⟨h,?_⟩
  by_cases e:c.op=1
  ·have hl:(newM l c).length=l.length+1:=by simp[newM,e,kM_length]
   have h:=ha l.length (by show _<(newM l c).length;omega)
   rw[hok _ (by omega),if_pos ⟨e,rfl⟩] at h
   exact .inr h
  ·exact .inl e
 ·rintro ⟨h,ha⟩
  refine⟨hr,h,hlen,fun k hk=>?_⟩
  rw[hok k hk]
  split
  ·rename_i e
   rcases ha with ha|ha
   ·exact absurd e.1 ha
   ·exact ha
  ·rfl
theorem makeE_right {l:List Fd} {c:Ch} (h:makeE l c=0):rightT (makeT l c)=true∧rightF l=true∧rightF (newF l c)=true∧makeT l c=tabC l c:=by
 have e:makeT l c=tabC l c:=by rw[makeT,if_pos h]
 unfold makeE at h
 split at h
 ·rename_i hs
  split at h
  ·rename_i hf
   unfold stepE at hs
   split at hs;· omega
   rename_i h0
   split at hs;· omega
   rename_i h1
   split at hs;· omega
   rename_i h2
   split at hs;· omega
   rename_i h3
   split at hs;· omega
   rename_i h4
   split at hs;· omega
   rename_i h5
   have hr:rightF l=true:=by simpa using h0
   refine⟨?_,hr,hf,e⟩
   rw[e,tabC_right hr (by omega) (fun h=>fun h'=>h2 ⟨h.1,h.2,h'⟩) (fun h=>Bool.of_not_eq_false fun hc=>h4 ⟨h,hc⟩) (fun h=>Bool.of_not_eq_false fun hc=>h5 ⟨h,hc⟩),hf]
   by_cases e1:c.op=1
   ·cases hc:okVal c
    ·exact absurd ⟨e1,hc⟩ h3
    ·simp
   ·simp[e1]
  ·omega
 ·rename_i hs;exact absurd h hs
def castL (v:Vl) (f g:Fd):Vl:=if rightB v.k v.b v.t f.k f.l=true∧castsB f.k f.l g.k g.l=true then⟨g.k,castZ v.b f.k g.k,castT v.t g.k g.l⟩ else Vl.z
theorem castL_v (v:Vl) (f g:Fd):castV v.k v.b v.t f.k f.l g.k g.l=(castL v f g).v:=by
 unfold castV castL
 split <;> rfl
theorem castL_bd {v:Vl} {f g:Fd} (h0:0≤v.b) (h1:v.b<18446744073709551616):0≤(castL v f g).b∧(castL v f g).b<18446744073709551616:=by
 unfold castL
 split
 ·exact castZ_bd _ _ _ h0 h1
 ·exact⟨by decide,by decide⟩
def compMv (a b:Tb) (k:Nat):Mv:=
 match b.m[k]? with
 |none=>⟨0,Vl.z⟩
 |some m=>
  if 0≤m.f then
   match a.m[m.f.toNat]? with
   |none=>⟨0,Vl.z⟩
   |some n=>if n.f<0 then⟨n.f,castL n.d ((b.o[m.f.toNat]?).getD Fd.z) ((b.n[k]?).getD Fd.z)⟩ else n
  else m
def compM (a b:Tb) (k:Nat):List Mv:=(List.range k).map (compMv a b)
theorem compM_succ (a b:Tb) (k:Nat):compM a b (k+1)=compM a b k++[compMv a b k]:=by simp[compM,List.range_succ]
theorem compM_length (a b:Tb) (k:Nat):(compM a b k).length=k:=by simp[compM]
def compT (a b:Tb):Tb:=⟨a.o,b.n,compM a b b.m.length⟩
def meetB (a b:Tb):Bool:=rightT a && rightT b && sameFB a.n b.o
def composeE (a b:Tb):Int:=if meetB a b=true∧rightT (compT a b)=true then 0 else 70
def composeT (a b:Tb):Tb:=if composeE a b=0 then compT a b else Tb.z
theorem casts_11 {k l l2:Int} (h:castsB k l 11 l2=true):k=11:=by
 unfold castsB at h
 split at h
 ·cases h
 ·split at h
  ·assumption
  ·split at h
   ·simp[btw] at h
   ·split at h
    ·simp[btw] at h
    ·split at h
     ·simp[btw] at h
     ·simp at h
theorem okMv_neg {o:List Fd} {g:Fd} {d:Vl}:okMv o g ⟨-1,d⟩=(rightB d.k d.b d.t g.k g.l && (decide (g.k≠11) || decide (d.b=0))):=by rw[okMv,if_pos rfl]
theorem okMv_pos {o:List Fd} {g:Fd} {m:Mv} (h:¬m.f=-1) (hok:okMv o g m=true):0≤m.f∧m.d=Vl.z∧∃f,o[m.f.toNat]?=some f∧castsB f.k f.l g.k g.l=true:=by
 rw[okMv,if_neg h,Qy,decide_eq_true_eq] at hok
 obtain⟨h0,h1⟩:=hok
 cases hf:o[m.f.toNat]? with
 |none=>rw[hf] at h1;cases h1
 |some f=>
  rw[hf] at h1
  simp only[Qy,decide_eq_true_eq] at h1
  exact⟨h0,h1.1,f,rfl,h1.2⟩
theorem comp_at {a b:Tb} (hw:MvW a.m) (ha:rightT a=true) (hb:rightT b=true) (hs:a.n=b.o) {k:Nat} {m:Mv} {g:Fd} (hm:b.m[k]?=some m) (hg:b.n[k]?=some g):
 (m.f<0∧compMv a b k=m∧okAt (compT a b) k=true)∨
 (0≤m.f∧∃n f,a.m[m.f.toNat]?=some n∧a.n[m.f.toNat]?=some f∧b.o[m.f.toNat]?=some f∧
   ((n.f<0∧compMv a b k=⟨n.f,castL n.d f g⟩∧okAt (compT a b) k=true)∨
    (0≤n.f∧compMv a b k=n∧∃h,a.o[n.f.toNat]?=some h∧okAt (compT a b) k=castsB h.k h.l g.k g.l))):=by
 obtain⟨_,_,ala,aok⟩:=rightT_iff.1 ha
 obtain⟨_,_,blb,bok⟩:=rightT_iff.1 hb
 have hk:k<b.m.length:=(J6.1 hm).1
 have hok:=bok k hk
 rw[okAt_mk hm hg] at hok
 have hat:okAt (compT a b) k=okMv a.o g (compMv a b k):=okAt_mk (t:=compT a b) (by show(compM a b b.m.length)[k]?=_;simp[compM,hk]) hg
 by_cases hf:m.f=-1
 ·have e:compMv a b k=m:=by unfold compMv;rw[hm];simp only;rw[if_neg (by omega)]
  refine .inl ⟨by omega,e,?_⟩
  rw[hat,e]
  obtain⟨mf,md⟩:=m
  obtain rfl:mf=-1:=hf
  rw[okMv_neg] at hok ⊢
  exact hok
 ·obtain⟨h0,hz,f,hbo,hcast⟩:=okMv_pos hf hok
  have hlt:m.f.toNat<b.o.length:=(J6.1 hbo).1
  have hlm:m.f.toNat<a.m.length:=by rw[ala,hs];exact hlt
  have hn:a.m[m.f.toNat]?=some (a.m[m.f.toNat]'hlm):=J4 hlm
  have haok:=aok _ hlm
  have han:a.n[m.f.toNat]?=some f:=by rw[hs];exact hbo
  rw[okAt_mk hn han] at haok
  obtain⟨w0,w1⟩:=hw _ (List.getElem_mem hlm)
  generalize a.m[m.f.toNat]'hlm=n at *
  refine .inr ⟨h0,n,f,hn,han,hbo,?_⟩
  by_cases hnf:n.f=-1
  ·have e:compMv a b k=⟨n.f,castL n.d f g⟩:=by unfold compMv;rw[hm];simp only;rw[if_pos h0,hn];simp only;rw[if_pos (by omega),hbo,hg];rfl
   refine .inl ⟨by omega,e,?_⟩
   rw[hat,e,hnf,okMv_neg]
   obtain⟨nf,nd⟩:=n
   obtain rfl:nf=-1:=hnf
   rw[okMv_neg,Qy] at haok
   obtain⟨hr,h11⟩:=haok
   have hcl:castL nd f g=⟨g.k,castZ nd.b f.k g.k,castT nd.t g.k g.l⟩:=by rw[castL,if_pos ⟨hr,hcast⟩]
   show(rightB (castL nd f g).k (castL nd f g).b (castL nd f g).t g.k g.l && (decide (g.k≠11) || decide ((castL nd f g).b=0)))=true
   rw[hcl]
   have hcr:=(cast_right (tx:=nd.t) w0 w1 hr hcast).1
   show(rightB g.k (castZ nd.b f.k g.k) (castT nd.t g.k g.l) g.k g.l && (decide (g.k≠11) || decide (castZ nd.b f.k g.k=0)))=true
   rw[hcr,Bool.true_and]
   by_cases hg11:g.k=11
   ·have hf11:f.k=11:=casts_11 (k:=f.k) (l:=f.l) (l2:=g.l) (by rw[hg11] at hcast;exact hcast)
    rw[hg11,hf11]
    simp[hf11] at h11
    simp[castZ,h11]
   ·simp[hg11]
  ·obtain⟨n0,nz,h,hao,_⟩:=okMv_pos hnf haok
   have e:compMv a b k=n:=by unfold compMv;rw[hm];simp only;rw[if_pos h0,hn];simp only;rw[if_neg (by omega)]
   refine .inr ⟨n0,e,h,hao,?_⟩
   rw[hat,e,okMv,if_neg hnf,hao]
   simp[n0,nz]
theorem meetB_iff {a b:Tb}:meetB a b=true↔rightT a=true∧rightT b=true∧a.n=b.o:=by
 simp[meetB,sameFB,and_assoc]
theorem compT_right {a b:Tb} (h:meetB a b=true):rightT (compT a b)=decide (∀k,k<b.m.length→okAt (compT a b) k=true):=by
 obtain⟨ha,hb,_⟩:=meetB_iff.1 h
 obtain⟨a1,_,_,_⟩:=rightT_iff.1 ha
 obtain⟨_,b2,b3,_⟩:=rightT_iff.1 hb
 have e1:(compT a b).m.length=b.m.length:=compM_length _ _ _
 rw[Qx,rightT_iff,decide_eq_true_eq,e1]
 exact⟨fun h=>h.2.2.2,fun h=>⟨a1,b2,b3,h⟩⟩
theorem composeE_right {a b:Tb} (h:composeE a b=0):meetB a b=true∧rightT (compT a b)=true∧composeT a b=compT a b:=by
 have e:composeT a b=compT a b:=by rw[composeT,if_pos h]
 unfold composeE at h
 split at h
 ·rename_i hh;exact⟨hh.1,hh.2,e⟩
 ·omega
theorem compM_w {a b:Tb} (ha:MvW a.m) (hb:MvW b.m) (k:Nat):MvW (compM a b k):=by
 intro m hm
 simp only[compM,X5] at hm
 obtain⟨j,_,rfl⟩:=hm
 unfold compMv
 split
 ·exact⟨by decide,by decide⟩
 ·rename_i m hm
  split
  ·split
   ·exact⟨by decide,by decide⟩
   ·rename_i n hn
    obtain⟨w0,w1⟩:=ha n (J7 hn)
    split
    ·exact castL_bd w0 w1
    ·exact⟨w0,w1⟩
  ·exact hb m (J7 hm)
def goT (t:Tb):List Ch→Tb×Int
 |[]=>(t,0)
 |c :: r=>if makeE t.n c=0 then(if composeE t (makeT t.n c)=0 then goT (composeT t (makeT t.n c)) r else(Tb.z,70)) else(Tb.z,makeE t.n c)
def allT (l:List Fd) (cs:List Ch):Tb×Int:=if rightF l=true then goT (keepT l) cs else(Tb.z,60)
def RdB (b:Nat) (w:World) (A:Option Addr) (cs:List Value):Prop:=cs≠[]→∃ad,A=some ad∧ad.block<b∧∀j u,cs[j]?=some u→w.cell? (ad.add j)=some u
theorem RdB.rd {b:Nat} {w:World} {A:Option Addr} {cs:List Value} (h:RdB b w A cs):Rd w A cs:=fun hn=>by
 obtain⟨ad,e,_,hc⟩:=h hn;exact⟨ad,e,hc⟩
theorem RdB.below {b:Nat} {w w1:World} {A:Option Addr} {cs:List Value} (h:RdB b w A cs) (hb:Below b w w1):RdB b w1 A cs:=fun hn=>by
 obtain⟨ad,e,hl,hc⟩:=h hn
 refine⟨ad,e,hl,fun j u hj=>(hb.cell ?_).trans (hc j u hj)⟩
 have:(ad.add j).block=ad.block:=by unfold Addr.add;split <;> rfl
 rw[this];exact hl
theorem RdB.mk {w w1:World} {A:Option Addr} {cs:List Value} (h:Rd w A cs) (hb:Below w.heap.size w w1) {b:Nat} (hl:w.heap.size≤b):RdB b w1 A cs:=fun hn=>by
 obtain⟨ad,e,hc⟩:=h.below hb hn
 obtain⟨ad',e',hc'⟩:=h hn
 rw[e] at e';cases e'
 refine⟨ad,e,?_,hc⟩
 cases cs with
 |nil=>exact absurd rfl hn
 |cons u r=>
  have h0:=World.block_lt_of_cell? w _ (hc' 0 u rfl)
  have:(ad.add 0).block=ad.block:=by unfold Addr.add;split <;> rfl
  rw[this] at h0;omega
def OwnLt (b:Nat) (v:Value):Prop:=∀k,v.ownBlock=some k→k<b
theorem own_keep {w w1:World} {base:Nat} {e:TypeId} {size n:Nat} {v:Value} {xs:List Value} (h:w.ownsRow base e size v n xs) (hk:∀g,v.ownBlock=some g→w1.heap[g]?=w.heap[g]?):w1.ownsRow base e size v n xs:=by
 obtain⟨h1,h2⟩:=h
 refine⟨h1,?_⟩
 rcases h2 with h2|⟨g,cap,cur,rfl,hg,hh,r⟩
 ·exact .inl h2
 ·exact .inr ⟨g,cap,cur,rfl,hg,(hk g (by simp[Value.ownBlock])).trans hh,r⟩
theorem own_belowB {w w1:World} {base B:Nat} {e:TypeId} {size n:Nat} {v:Value} {xs:List Value} (h:w.ownsRow base e size v n xs) (hl:OwnLt B v) (hb:Below B w w1):w1.ownsRow base e size v n xs:=
 own_keep h fun g hg=>hb.block g (hl g hg)
theorem RdB.own {w:World} {base b n m c:Nat} {e:TypeId} {size:Nat} {A:Option Addr} {xs:List Value} (h:w.ownsRow base e size (.slice A m c) n xs) (hl:OwnLt b (.slice A m c)):RdB b w A xs:=by
 obtain⟨A',c',e1,_,_,hr⟩:=own_rd h
 cases e1
 intro hn
 obtain⟨ad,rfl,hc⟩:=hr hn
 exact⟨ad,rfl,hl _ (by simp[Value.ownBlock]),hc⟩
theorem OwnLt.mono {b b':Nat} {v:Value} (h:OwnLt b v) (hb:b≤b'):OwnLt b' v:=fun k hk=>by have:=h k hk;omega
theorem CloneF_m (A:Option Addr) (c m:Nat) (l:List Fd) (hm:l.length=m) (w:World) (hA:Rd w A (cellsF l)) (hl:m≤4398046511104) (hlc:m≤c):
 Calls Tryz.prog 35 #[.slice A m c] w fun e w'=>∃B d,e=.returned (.slice B m d)∧m≤d∧w'.ownsRow w.heap.size 68 3 (.slice B m d) m (cellsF l)∧Below w.heap.size w w':=by
 subst hm
 refine(CloneF_calls A c l w hA hl hlc).mono ?_
 rintro e w' ⟨v,rfl,ho,hb⟩
 obtain⟨B,d,rfl,hd,_,_⟩:=own_rd ho
 exact⟨B,d,rfl,hd,ho,hb⟩
theorem TSame_yes (A:Option Addr) (c m:Nat) (l:List Fd) (hm:l.length=m) (hr:rightF l=true) (w:World) (hA:Rd w A (cellsF l)) (hl:m≤9223372036854775807) (hc:m≤c):
 Calls Tryz.prog 45 #[.slice A m c] w fun e w'=>∃B d v2 v3 b1 b2,e=.returned (.agg #[.slice B m d,v2,v3])∧w.heap.size≤b1∧b1≤b2∧b2≤w'.heap.size∧RdB b1 w' B (cellsF l)∧(∀ad,B=some ad→w.heap.size≤ad.block∧ad.block<b1)∧w'.ownsRow b1 68 3 v2 m (cellsF l)∧OwnLt b2 v2∧w'.ownsRow b2 137 4 v3 m (cellsM (kM m))∧Below w.heap.size w w':=by
 obtain⟨i0,hi,hz0,hz1,hz2⟩:=info_parts infoMv
 have h16:m≤16:=by rw[←hm];exact(rightF_may hr).2
 have hb1:=below_new (w:=w) (.cells #[.slice none 0 0,.slice none 0 0,.slice none 0 0] 96)
 have R:=OBox.new w [.slice none 0 0,.slice none 0 0,.slice none 0 0] 96
 have HB:=hb1
 replace hA:=hA.below hb1
 have HM:=J0 hm
 have HR:=J0 hr
 have tok1:=True.intro
 clear hm hr hb1
 go_enter Tryz.func45,Tryz.ntmps45
 go_wp2_with (first
  |(go_at_call 62;refine(Right_m A c m l HM.out true HR.out _ hA hl).mono ?_;rintro e W1 ⟨rfl,hb⟩;replace HB:=HB.trans (hb.mono HB.size);replace R:=R.below hb;replace hA:=hA.below hb;have hz1W:w.heap.size+1≤W1.heap.size:=R.lt;clear hb)
  |(have _t:=tok1;go_at_call 35;refine(CloneF_m A c m l HM.out _ hA (by omega) hc).mono ?_;rintro e W2 ⟨B,d,rfl,hd,own1,hb⟩;replace HB:=HB.trans (hb.mono HB.size);replace R:=R.below hb;replace hA:=hA.below hb;have hz12:=HB.size;have h12:=hb.size;clear hb tok1;have tok2:=True.intro)
  |(have _t:=tok2;go_at_call 35;refine(CloneF_m A c m l HM.out _ hA (by omega) hc).mono ?_;rintro e W3 ⟨B2,d2,rfl,hd2,own2,hb3⟩;replace HB:=HB.trans (hb3.mono HB.size);replace R:=R.below hb3;clear hA tok2))
 have O:=OBox.new W3 [.slice B m d,.slice B2 m d2,.slice none 0 0] 96
 have hb2:=below_new (w:=W3) (.cells #[.slice B m d,.slice B2 m d2,.slice none 0 0] 96)
 have hzW:w.heap.size<W3.heap.size:=R.lt
 have h23:=hb3.size
 have lt1:OwnLt W2.heap.size (.slice B m d):=own_lt own1
 have own1':=own_mono (own_below (own_below own1 hb3) hb2) hz1W
 have own2':=own_below own2 hb2
 have lt2:OwnLt W3.heap.size (.slice B2 m d2):=own_lt own2
 have R0:=R.below hb2
 have HB0:=HB.trans (hb2.mono HB.size)
 clear hb2 HB R own1 own2 hb3
 go_loopw [4,16] (fun i j wr=>∃(k:Nat) (v:Value),k≤m∧j=.int .i64 k∧wr.ownsRow (W3.heap.size+1) 137 4 v k (cellsM (kM k))∧OBox wr W3.heap.size [.slice B m d,.slice B2 m d2,v] 96∧OBox wr w.heap.size [.slice none 0 0,.slice none 0 0,.slice none 0 0] 96∧Below w.heap.size w wr∧W3.heap.size<wr.heap.size∧wr.ownsRow (w.heap.size+1) 68 3 (.slice B m d) m (cellsF l)∧wr.ownsRow W2.heap.size 68 3 (.slice B2 m d2) m (cellsF l)) (fun _ i _=>m - (intOf i).toNat)
 case atStart=>exact⟨0,_,by omega,rfl,own_nil _ _ _ _,O,R0,HB0,by simp,own1',own2'⟩
 case round=>
  obtain⟨k,v,hk,rfl,hown,O,R,HB,hz,own1,own2⟩:=hrel
  clear R0 HB0
  by_cases hlt:k<m
  ·have HK:=J0 (kM_succ k)
   obtain⟨k0,k1,k2,f0,f1,f2⟩:=(O.below (below_new (w:=wr) (.cells #[.int .i64 k,.int .i64 0,.int .u64 0,.string ⟨#[]⟩] 137))).f3
   obtain⟨q0,q1,q2,p0,p1,p2⟩:=O.f3
   go_wp2_with (at_builtin;refine wpList_append_own _ rfl _ _ 94 rfl (W3.heap.size+1) 137 i0 (.agg #[.int .i64 0,.int .i64 0,.int .u64 0,.string ⟨#[]⟩]) 4 40 Tryz.underlying94 hi hz0 hz1 hz2 rfl (by decide) _ _ _ rfl (hown.alloc _) ⟨wr.heap.size,0,none⟩ 1 1 [.int .i64 k,.int .i64 0,.int .u64 0,.string ⟨#[]⟩] rfl rfl ?c1 ?c2 ?c3 ?c4 ?c5 ?_)
   case c1=>exact news4 _ _ _ _ _ _
   case c2=>intro u hu;simp at hu;rcases hu with rfl|rfl|rfl|rfl <;> rfl
   case c3=>simp only[maxLen];omega
   case c4=>omega
   case c5=>simp;omega
   intro v' w3 hown' hgrow _
   have BG:Below (W3.heap.size+1) wr w3:=((Jy _ _).alloc (by omega) (.cells #[.int .i64 k,.int .i64 0,.int .u64 0,.string ⟨#[]⟩] 137)).grown hgrow (by simp;omega) (fun q hq=>own_base hown q hq)
   have O3:OBox w3 W3.heap.size [.slice B m d,.slice B2 m d2,v] 96:=(BG.block _ (by omega)).trans O
   have R3:OBox w3 w.heap.size [.slice none 0 0,.slice none 0 0,.slice none 0 0] 96:=(BG.block _ (by omega)).trans R
   have HB3:=HB.trans (BG.mono (by omega))
   have hown3:w3.ownsRow (W3.heap.size+1) 137 4 v' (k+1) (cellsM (kM (k+1))):=own_eq hown' (by simp) (by rw[HK.out,cellsM_append];rfl)
   have hz3:=BG.size
   obtain⟨B',c',rfl,_,_,_⟩:=own_rd hown3
   clear hown' hgrow hown k0 k1 k2 f0 f1 f2 q0 q1 q2 p0 p1 p2
   obtain⟨k0,k1,k2,f0,f1,f2⟩:=O3.f3
   go_wp2
   go_roundw
   case rel=>
    have BS:Below W3.heap.size wr (w3.setCell ⟨W3.heap.size,2,none⟩ (.slice B' (k+1) c')):=(BG.mono (Nat.le_succ _)).setCell (J9 _) _
    exact⟨k+1,_,by omega,by go_num,ownsRow_setCell_below hown3 (by show _<_;simp) _,obox_set O3 2 _,(J5 _ _ _ _ (by show _≠_;simp;omega)).trans R3,HB3.setCell (by show _≤_;simp;omega) _,by simp;omega,own_belowB own1 lt1 (BS.mono h23),own_belowB own2 lt2 BS⟩
   case measure=>simp[intOf];omega
  ·obtain rfl:k=m:=by omega
   obtain⟨B',c',rfl,_,_,_⟩:=own_rd hown
   obtain⟨k0,k1,k2,f0,f1,f2⟩:=O.f3
   obtain⟨q0,q1,q2,p0,p1,p2⟩:=R.f3
   go_wp2
   refine bodyPost_ret (v:=.agg #[.slice B k d,.slice B2 k d2,.slice B' k c']) (by simp[results,Tryz.results45,go_sem, *];done) rfl ⟨B,d,_,_,W2.heap.size,W3.heap.size,rfl,hz12,h23,?_,?_,?_,?_,lt2,?_,?_⟩
   ·simp;omega
   ·refine RdB.own (ownsRow_setCell_below (ownsRow_setCell_below (ownsRow_setCell_below own1 ?_ _) ?_ _) ?_ _) lt1 <;> (show _<_;simp)
   ·intro ad e;have:=own_base own1 ad.block (by rw[e];rfl);have:=lt1 ad.block (by rw[e];rfl);omega
   ·refine ownsRow_setCell_below (ownsRow_setCell_below (ownsRow_setCell_below own2 ?_ _) ?_ _) ?_ _ <;> (show _<_;simp;omega)
   ·refine own_mono (ownsRow_setCell_below (ownsRow_setCell_below (ownsRow_setCell_below hown ?_ _) ?_ _) ?_ _) (Nat.le_succ _) <;> (show _<_;simp;omega)
   ·(repeat (first|exact HB|refine J8 ?_ (by dsimp only;omega) _|refine Jk ?_ (by have hs_:=HB.size;first|(simp;done)|(simp;omega)|omega) _|apply Jv))
end
end Go.Proofs.YteembinfgbapgaaGreat
