/- Merged out of: Vl Vm Vn Vo Vt Ya Yb. -/
import Derived.Test.YteembinfgbapgaaGreatE00
import Derived.Test.YteembinfgbapgaaGreatE13
import Derived.Test.YteembinfgbapgaaGreatE12
import Derived.Maps.RangeRun
import Derived.Test.YteembinfgbapgaaGreatE01
import Derived.Test.YteembinfgbapgaaGreatE11
set_option linter.unusedSimpArgs false
set_option linter.unusedVariables false
set_option maxRecDepth 100000
set_option maxHeartbeats 8000000
namespace Go.Proofs.YteembinfgbapgaaGreat
section
open Go.RowKit Go.Lib Go.Maps
theorem fF (x:EN):(aH x).length=x.length:=by simp[aH]
theorem jt (x:EN):∀u∈aH x,u.oneCell'=true:=by
 intro u hu;simp[aH] at hu;obtain⟨y,_,rfl⟩:=hu;rfl
theorem Rd.at_bytes {w:EQ} {A:EL} {x:EN} (h:Rd w A (aH x)) (hx:0<x.length):∃ad,A=some ad/\∀j u,(aH x)[j]?=some u->w.cell? (ad.add j)=some u:=h (by intro e;have:=congrArg List.length e;rw[fF] at this;simp at this;rw[this] at hx;simp at hx)
theorem au.own {w w':EQ} {v v':ER} {A:EL} {cs:EO} (h:au (fun g=>v.ownBlock≠some g) w A cs) (hg:w.grownBy w' v.ownBlock) (hat:v'.ownBlock=v.ownBlock\/v'.ownBlock=some w.heap.size):au (fun g=>v'.ownBlock≠some g) w' A cs:=by
 have h1:=h.lt.keep (w':=w') (fun g hgg=>hg.block g hgg.2 (fun e=>hgg.1 e.symm))
 refine h1.mono fun g hgg=>?_
 rcases hat with e|e
 ·rw[e];exact hgg.1
 ·rw[e];intro e2;have:=Jj e2;omega
theorem qZ {w w':EQ} {v v':ER} {b:Nat} {cs:EO} {T:ES} (h:aD w b cs T) (hn:v.ownBlock≠some b) (hg:w.grownBy w' v.ownBlock) (hat:v'.ownBlock=v.ownBlock\/v'.ownBlock=some w.heap.size):aD w' b cs T/\v'.ownBlock≠some b:=by
 refine⟨h.grown hg (fun e=>hn e.symm),?_⟩
 have:=h.lt
 rcases hat with e|e
 ·rw[e];exact hn
 ·rw[e];intro e2;have:=Jj e2;omega
theorem ku {P:Program} {ops:Array Oper} {rest:List Oper} {o:Oper} {a:Act} {w:EQ} {Q:Exit->Act->EQ->Prop} (hgd:o.guard=none) (s x:Operand) (t:ES)
 (ho:o.op=.call { callee:=.builtin .append,args:=#[s,x],argTypes:=#[t,t] }) (base:Nat) (e:ES) (i:TypeInfo) (size:Nat) (ht:P.underlying t=some (.slice e)) (hi:P.info? e=some i)
 (v:ER) (n:Nat) (xs:EO) (hs:a.eval s=v) (hown:w.ownsRow base e size v n xs) (hx:a.eval x=.slice none 0 0) (h:wpList P ops Q rest (a.put o.dst v) w):wpList P ops Q (o :: rest) a w:=by
 refine wpList_plain hgd fun K hK=>?_
 have hr:=run_append_owned_none (P:=P) w base t o.type e i size ht hi v n xs hown
 unfold Oper.wp execOp
 simp only[ho,resolve,invoke,builtin,Sem.run_bind,Sem.run_pure,Result.andThen_ok,List.map_toArray,List.map_cons,List.map_nil,hs,hx,hr]
 exact hK _ _ h
theorem ki {n:Nat} (h:n<256):aH (dG (n:Int) 1)=[.int .u8 (n:Int)]:=by
 have e:dG (n:Int) 1=[UInt8.ofNat n]:=by
  simp only[dG,List.range_one,List.map_cons,List.map_nil,dx]
  congr 2
  simp
  omega
 rw[e]
 simp[aH,UInt8.toNat_ofNat,Nat.mod_eq_of_lt h]
theorem BQ {o:List Fd} {g:Fd} {m:Mv} (h:eW o g m=true) (h16:o.length<=16):∃b:Int,IntKind.u8.wrap m.f=b/\aH (if m.f=-1 then[255] else dG m.f 1)=[.int .u8 b]:=by
 by_cases hf:m.f=-1
 ·refine⟨255,by rw[hf];decide,by rw[Xz hf];rfl⟩
 ·obtain⟨h0,_,f,hof,_⟩:=gD hf h
  have hlt:=(J6.1 hof).1
  obtain⟨q,hq⟩:∃q:Nat,m.f=(q:Int):=⟨m.f.toNat,by omega⟩
  rw[hq] at hlt hf |-
  refine⟨q,IntWalk.u8_in _ (by omega),by rw[Xy hf];exact ki (by omega)⟩
theorem zS {n:Nat} (h:n<256):bi (n:Int) (1:Nat) false=true:=by simp[bi,af,fA];omega
theorem tL {n:Nat} (h:n<65536):bi (n:Int) (2:Nat) false=true:=by simp[bi,af,fA];omega
theorem De {E:List En} (hok:Wq (E.map (·.y))) {L:List Ty} (hL:L.Perm (E.map (·.y))) {k:Nat} {y:Ty} (hy:L[k]?=some y):∃d,bH E y.s=some d/\d.y=y:=by
 have hm:=hL.subset (J7 hy)
 obtain⟨t,ht⟩:=nU (D:=E.map (·.y)) (nm:=y.s) (Vy.2 ⟨y,hm,rfl⟩)
 obtain⟨h1,h2⟩:=bQ ht
 have hty:t=y:=by
  obtain⟨i,hi⟩:=Qv.1 h1
  obtain⟨j,hj⟩:=Qv.1 hm
  have a1:((E.map (·.y)).map (·.s))[i]?=some y.s:=by rw[Kv,hi];exact congrArg some h2
  have a2:((E.map (·.y)).map (·.s))[j]?=some y.s:=by rw[Kv,hj];rfl
  have hij:=(List.getElem?_inj (J6.1 a1).1 hok.nd).1 (a1.trans a2.symm)
  subst hij
  rw[hi] at hj
  exact Jj hj
 subst hty
 exact kV ht
theorem ky {W:EQ} {cp mp:Nat} {E:List En} {es:List MapEntry} {clock:Nat} (h:aa 89 80 W cp mp E es clock) (hok:Wq (E.map (·.y))) (L:List Ty) (hL:L.Perm (E.map (·.y))) (hrk:bU L) (z:Nat) (hz:(eL L).length=z):
 Calls Tryz.prog 27 #[.pointer (some ⟨cp,0,none⟩)] W fun e w'=>∃B c,e=.returned (.slice B z c)/\z<=c/\c<=maxLen/\Rd w' B (aH (eL L))/\Below W.heap.size W w':=by
 obtain⟨i0,hi,hz0,hz1,hz2⟩:=info_parts nW
 obtain⟨n,hn⟩:∃n,L.length=n:=⟨_,rfl⟩
 have hel:es.length=n:=by have:=congrArg List.length h.prs;rw[iZ,Kz] at this;have h2:=hL.length_eq;rw[Kz] at h2;omega
 have h16:n<=16:=by have h2:=hL.length_eq;have:=hok.len;omega
 have hLo:∀y∈L,y.Ok:=fun y hy=>hok.ok y (hL.subset hy)
 have hwn:IntKind.u8.wrap (n:Int)=(n:Int):=IntWalk.u8_in _ (by omega)
 have HH:=J0 h;have HOK:=J0 hok;have HL:=J0 hL;have HRK:=J0 hrk;have HZ:=J0 hz;have HN:=J0 hn;have HLO:=J0 hLo
 obtain⟨b0,_⟩:=h.box.f1
 have k3:=iP h.map
 rw[hel] at k3
 have nb:=aA (w:=W) (.cells #[.int .u8 (n:Int)] 5)
 have own0:(W.alloc (.cells #[.int .u8 (n:Int)] 5)).ownsRow W.heap.size 5 1 (.slice (some ⟨W.heap.size,0,none⟩) 1 1) 1 (aH (dG (n:Int) 1++fX L 0)):=by
  rw[lY,List.append_nil,ki (by omega)]
  exact⟨rfl,.inr ⟨_,1,#[.int .u8 (n:Int)],rfl,J9 _,Y7 _ _,J9 _,by decide,rfl,rfl⟩⟩
 clear h hok hL hrk hz hn hel hLo
 go_enter Tryz.func27,Tryz.ntmps27
 go_upto_region 3 with (go_at_call 14;refine(wD (HH.out.below nb) (by have:=HOK.out.len;simp at this;omega) L HL.out HRK.out).mono ?_;rw[HN.out];rintro e w1 ⟨Bn,cn,rfl,hrn,hb1⟩)
 have HB1:=nb.trans (hb1.mono nb.size)
 have hrn0:au (fun g=>(Value.slice (some ⟨W.heap.size,0,none⟩) 1 1).ownBlock≠some g) w1 Bn (ge (L.map (·.s))):=hrn.mono (fun g hg=>by intro e;have h2:some W.heap.size=some g:=e;have:=Jj h2;simp at hg;omega)
 clear hrn
 have own1:=aG own0 hb1
 clear nb own0 hb1 b0 k3
 go_loopw [3,5,25] (fun v _ i wr=>∃(k l:Nat),k<=n/\i=.int .i64 k/\Hid ((dG (n:Int) 1++fX L k).length=l)/\wr.ownsRow W.heap.size 5 1 v l (aH (dG (n:Int) 1++fX L k))/\Below W.heap.size W wr/\au (fun g=>v.ownBlock≠some g) wr Bn (ge (L.map (·.s)))) (fun _ _ i _=>n - (intOf i).toNat)
 case atStart=>exact⟨0,1,by omega,rfl,J0 (by simp[lY,aX]),own1,HB1,hrn0⟩
 case round=>
  obtain⟨k,l,hk,rfl,hl,hown,HB,hrn2⟩:=hrel
  clear HB1 own1 hrn0
  obtain⟨V,vc,rfl,_,_,_⟩:=aL hown
  by_cases hlt:k<n
  ·obtain⟨y,hy⟩:∃y,L[k]?=some y:=⟨_,J4 (by rw[HN.out];exact hlt)⟩
   obtain⟨nd,rfl,n0⟩:=hrn2.rd.at (j:=k) (u:=.string y.s) (by simp[ge,hy])
   obtain⟨d,hd,hdy⟩:=De HOK.out HL.out hy
   have hyo:=HLO.out y (J7 hy)
   have hH:=HH.out.below HB
   have hmx:y.s.size<=maxLen:=tW hyo.nm
   have k1:=cD hH hmx
   rw[hd] at k1
   have b0:=hH.box.f1.1
   have hdI:=hH.ents d (bG hd).1
   obtain⟨g,c,m,ev,hnc,hnl,hsum,htop,hpos,hrd⟩:=En.open hdI (by rw[hdy];exact hyo)
   have hbx:=hdI.box
   rw[ev] at hbx
   have htabs:=hdI.tabs
   have hdE:=(bG hd).1
   rw[hdy] at hbx hsum htop htabs
   obtain⟨bp,hp⟩:∃p,d.p=p:=⟨_,rfl⟩
   simp only[hp] at k1
   rw[hp] at hbx
   have hym:=hyo.nm
   obtain⟨sz,hsz⟩:∃q,y.s.size=q:=⟨_,rfl⟩
   have hsz15:1<=sz/\sz<=15:=by
    unfold bI at hym
    rw[Qz] at hym
    have:=Yv hym.2
    omega
   obtain⟨old,hold⟩:∃q,y.old=q:=⟨_,rfl⟩
   obtain⟨top,htp⟩:∃q,y.top=q:=⟨_,rfl⟩
   rw[hold] at hbx hsum
   rw[htp] at hsum htop
   have hm64:m<=64:=by have:=hyo.lo;omega
   have HY:=J0 hy;have HYO:=J0 hyo;have HSZ:=J0 hsz;have HS:=J0 hsum;have HTB:=J0 htabs;have HOD:=J0 hold;have HTP:=J0 htp;have HNL:=J0 hnl;have HDE:=J0 hdE
   have hl6:l<=1400000:=by
    have h1:=kt HLO.out (by rw[HN.out];omega) k
    have h2:=hl.out
    rw[Vq,aX] at h2
    omega
   have hcb:=jv y.s wr
   rw[hsz] at hcb
   have hall:∀W',Below W.heap.size W W'->aD W' bp [.int .i64 (old:Nat),.slice (some ⟨g,0,none⟩) m c] 89/\Rd W' (some ⟨g,0,none⟩) (ah d.xs)/\∀X∈d.xs,Rd W' X.B (aC X.t.n)/\Rd W' X.C (aJ X.t.m):=fun W' hb=>by
    have hc:=HH.out.below hb
    have hI:=hc.ents d hdE
    have hb1:=hI.box
    rw[ev,hdy,hold,hp] at hb1
    have hr1:=hI.row
    rw[ev,hnl] at hr1
    exact⟨hb1,iW hr1,fun X hX=>⟨(hc.tabs d hdE X hX).n.rd,(hc.tabs d hdE X hX).m.rd⟩⟩
   have HALL:=J0 hall
   have hbpW:bp<W.heap.size:=(hall W (Jy _ _)).1.lt
   clear hy hyo hsz hsum htabs hold htp hnl hdE hd hdy hdI ev hmx hym hp hH hall
   go_upto_region 6 with fail
   clear n0 k1 b0
   have hbw:=fG wr 5 y.s
   have hrw:=gc wr 5 y.s
   have ownA:=aG hown hbw
   go_upto_region 7 with (first
    |(go_at_call 59;refine(ww _ sz _ (bl y.s) (by rw[aZ];exact HSZ.out) (by omega) 1 (by omega) (zS (by omega)) (by omega) _ hrw).mono ?_;rintro e w4 ⟨B4,c4,rfl,r4,hb4⟩;obtain⟨a4,ha4,hc4⟩:=r4.at_bytes (by rw[Vq,aX];omega);subst ha4;have ownB:=aG ownA hb4;have hrnB:=(hrn2.up hbw).up hb4;have hz4:=Q7 hbw.size hb4.size;have hzr:=HB.size)
    |(at_builtin;refine Y4 _ rfl _ _ 44 rfl W.heap.size 5 i0 (.int .u8 0) 1 1 Tryz.underlying44 hi hz0 hz1 hz2 rfl (by decide) _ _ _ rfl ownB a4 (1+sz) c4 (aH (dG (sz:Int) 1++bl y.s)) rfl ?c0 ?c1 ?c2 ?c3 ?c4 ?c5 ?_))
   case c0=>rw[fF,Vq,aX,aZ,HSZ.out];omega
   case c1=>exact hc4
   case c2=>exact jt _
   case c3=>simp only[maxLen];omega
   case c4=>omega
   case c5=>omega
   intro v5 w5 hown' hgrow _ hat
   have hrn5:=hrnB.own hgrow hat
   have own5:w5.ownsRow W.heap.size 5 1 v5 (l+(1+sz)) (aH (dG (n:Int) 1++fX L k++(dG (sz:Int) 1++bl y.s))):=ag hown' (by simp) (by rw[bE (dG (n:Int) 1++fX L k)])
   have HB4:=(HB.trans (hbw.mono HB.size)).trans (hb4.mono (by have:=HB.size;have:=hbw.size;omega))
   have HB5:=HB4.grown hgrow HB4.size (fun q hq=>aF ownB q hq)
   have hHb:∀q,q<W.heap.size->w5.heap[q]?=W.heap[q]?:=fun q hq=>HB5.block q hq
   clear hown' hgrow hown ownA ownB hc4 r4 hbw hrw hcb hb4 hat hrnB hrn2
   obtain⟨V5,c5,rfl,_,_,_⟩:=aL own5
   go_upto_region 7 with fail
   clear hbx hrd
   obtain⟨hbx5,_,_⟩:=HALL.out w5 HB5
   have own5d:w5.drew.ownsRow _ _ _ _ _ _:=aG own5 (Jy w5.heap.size w5).drew
   have hbx5d:aD w5.drew bp [.int .i64 (old:Nat),.slice (some ⟨g,0,none⟩) m c] 89:=hbx5
   have HB5d:=HB5.drew
   have hrn5d:=hrn5.up (Jy w5.heap.size w5).drew
   have s0:w5.drew.cell? ⟨bp,0,none⟩=some (.int .i64 (old:Nat)):=hbx5d.f2.1
   have hne5:∀(V:EL) (cc:Nat) {w':EQ} {xs:EO} {nn:Nat},w'.ownsRow W.heap.size 5 1 (.slice V nn cc) nn xs->some bp≠(Value.slice V nn cc).ownBlock:=fun V cc w' xs nn ho e=>by have:=aF ho bp e.symm;omega
   have hw8a:IntKind.u8.wrap (old:Int)=(old:Int):=IntWalk.u8_in _ (by have:=HS.out;omega)
   have hw8b:IntKind.u8.wrap (top:Int)=(top:Int):=IntWalk.u8_in _ (by omega)
   refine wp_region_noPanic ?_
   refine wp_region_held_drew (S:=(fun W'=>W'.cell? ⟨bp,0,none⟩=some (.int .i64 (old:Nat)))) (by kernel_rfl) ?_ (fun hHeld=>?_)
   ·exact s0
   refine Y6 (i:=0) (oi:=_) (v:=?_) rfl (by kernel_rfl) (by kernel_rfl) (by kernel_rfl) (fun _ _ _ h=>h) (Or.inl ⟨by rfl,?_⟩) hHeld ?_
   rotate_left
   ·(intro w hSw;(try dsimp only at hSw);go_simp;first|done|with_reducible rfl)
   try simp only[Act.put,J1,J3,J2,Ky,K9,Jz]
   refine Y6 (i:=1) (oi:=_) (v:=?_) rfl (by kernel_rfl) (by kernel_rfl) (by kernel_rfl) (fun _ _ _ h=>h) (Or.inl ⟨by rfl,?_⟩) hHeld ?_
   rotate_left
   ·(intro w hSw;(try dsimp only at hSw);go_simp;first|done|with_reducible rfl)
   try simp only[Act.put,J1,J3,J2,Ky,K9,Jz]
   refine Y6 (i:=2) (oi:=_) (v:=?_) rfl (by kernel_rfl) (by kernel_rfl) (by kernel_rfl) (fun _ _ _ h=>h) (Or.inl ⟨by rfl,?_⟩) hHeld ?_
   rotate_left
   ·(intro w hSw;(try dsimp only at hSw);go_simp;first|done|with_reducible rfl)
   try simp only[Act.put,J1,J3,J2,Ky,K9,Jz]
   refine Y6 (i:=3) (oi:=_) (v:=?_) rfl (by kernel_rfl) (by kernel_rfl) (by kernel_rfl) (fun _ _ _ h=>h) (Or.inl ⟨by rfl,?_⟩) hHeld ?_
   rotate_left
   ·(intro w hSw;(try dsimp only at hSw);go_simp;first|done|with_reducible rfl)
   try simp only[Act.put,J1,J3,J2,Ky,K9,Jz]
   refine Y6 (i:=4) (oi:=_) (v:=?_) rfl (by kernel_rfl) (by kernel_rfl) (by kernel_rfl) (fun _ _ _ h=>h) (Or.inl ⟨by rfl,?_⟩) hHeld ?_
   rotate_left
   ·(intro w hSw;(try dsimp only at hSw);go_simp;first|done|with_reducible rfl)
   try simp only[Act.put,J1,J3,J2,Ky,K9,Jz]
   refine Y6 (i:=5) (oi:=_) (v:=?_) rfl (by kernel_rfl) (by kernel_rfl) (by kernel_rfl) (fun _ _ _ h=>h) (Or.inl ⟨by rfl,?_⟩) hHeld ?_
   rotate_left
   ·(intro w hSw;(try dsimp only at hSw);go_simp;first|done|with_reducible rfl)
   try simp only[Act.put,J1,J3,J2,Ky,K9,Jz]
   refine Y6 (i:=6) (oi:=_) (v:=?_) rfl (by kernel_rfl) (by kernel_rfl) (by kernel_rfl) (fun _ _ _ h=>h) (Or.inl ⟨by rfl,?_⟩) hHeld ?_
   rotate_left
   ·(intro w hSw;(try dsimp only at hSw);go_simp;first|done|with_reducible rfl)
   try simp only[Act.put,J1,J3,J2,Ky,K9,Jz]
   refine wpAnyH_ready (rs:=[7]) (by kernel_rfl) (by simp) ?_
   refine AllReadyH.cons (o:=_) rfl (fun K hK=>?_) AllReadyH.nil
   go_simp
   (go_at_call 33;refine(di bp old m _ c top HS.out (by omega) _ hbx5d).mono ?_;rintro e wN ⟨rfl,hbN⟩;have s1:=((hbx5d).below hbN).f2.1;have ownN:=aG own5d hbN;have hbxN:=hbx5d.below hbN;have hzN:=hbN.size;have HBN:Below W.heap.size W wN:=HB5d.trans (hbN.mono HB5d.size))
   try (go_wp2_with fail)
   refine hK.out _ _ ?_ (fun hHeld=>?_)
   ·(try dsimp only);first|assumption|exact s0
   clear hK K
   try simp only[Act.put,J1,J3,J2,Ky,K9,Jz]
   refine Y6 (i:=8) (oi:=_) (v:=?_) rfl (by kernel_rfl) (by kernel_rfl) (by kernel_rfl) (fun _ _ _ h=>h) (Or.inl ⟨by rfl,?_⟩) hHeld ?_
   rotate_left
   ·(intro w hSw;(try dsimp only at hSw);go_simp;first|done|with_reducible rfl)
   try simp only[Act.put,J1,J3,J2,Ky,K9,Jz]
   refine wpAnyH_ready (rs:=[9]) (by kernel_rfl) (by simp) ?_
   refine AllReadyH.cons (o:=_) rfl (fun K hK=>?_) AllReadyH.nil
   go_simp
   have s2:=(hbxN.below (aA (.cells #[.int .u8 (old:Int),.int .u8 (top:Int)] 5))).f2.1
   refine hK.out _ _ ?_ (fun hHeld=>?_)
   ·(try dsimp only);first|assumption|exact s0
   clear hK K
   try simp only[Act.put,J1,J3,J2,Ky,K9,Jz]
   refine wpAnyH_ready (rs:=[10]) (by kernel_rfl) (by simp) ?_
   refine AllReadyH.cons (o:=_) rfl (fun K hK=>?_) AllReadyH.nil
   have hbase10:W.heap.size<=(wN.alloc (.cells #[.int .u8 (old:Int),.int .u8 (top:Int)] 5)).heap.size:=by have:=HBN.size;simp;omega
   refine ij rfl (.tmp 40) (.tmp 49) 44 rfl W.heap.size 5 i0 (.int .u8 0) 1 1 Tryz.underlying44 hi hz0 hz1 hz2 rfl (by decide) (.slice V5 (l+(1+sz)) c5) (l+(1+sz)) _ (by simp[Act.eval]) (aG ownN (aA _)) ⟨wN.heap.size,0,none⟩ 2 2 [.int .u8 (old:Int),.int .u8 (top:Int)] (by simp[Act.eval]) rfl (jD wN [.int .u8 (old:Int),.int .u8 (top:Int)] 5 (by simp)) (by intro u hu;simp at hu;rcases hu with rfl|rfl <;> rfl) (by simp only[maxLen];omega) (by omega) hbase10 ?_
   intro v7 w7 own7 gr7 hat7
   have s3:w7.cell? ⟨bp,0,none⟩=some (.int .i64 (old:Nat)):=(aD.grown (hbxN.below (aA _)) gr7 (hne5 _ _ ownN)).f2.1
   obtain⟨V7,c7,e7,_,_,_⟩:=aL own7
   subst e7
   refine hK.out _ _ ?_ (fun hHeld=>?_)
   ·(try dsimp only);first|assumption|exact s0
   clear hK K
   try simp only[Act.put,J1,J3,J2,Ky,K9,Jz]
   refine Y6 (i:=11) (oi:=_) (v:=?_) rfl (by kernel_rfl) (by kernel_rfl) (by kernel_rfl) (fun _ _ _ h=>h) (Or.inl ⟨by rfl,?_⟩) hHeld ?_
   rotate_left
   ·(intro w hSw;(try dsimp only at hSw);go_simp;first|done|with_reducible rfl)
   try simp only[Act.put,J1,J3,J2,Ky,K9,Jz]
   refine wpAnyH_done (by kernel_rfl) ?_ _
   refine NoPanic.normal ?_
   have HB7:Below W.heap.size W w7:=(HBN.alloc HBN.size (.cells #[.int .u8 (old:Int),.int .u8 (top:Int)] 5)).grown gr7 (by have:=HBN.size;simp;omega) (fun q hq=>aF ownN q hq)
   have own8:w7.ownsRow W.heap.size 5 1 (.slice V7 (l+(1+sz)+2) c7) (l+(1+sz)+2) (aH (dG (n:Int) 1++fX L k++jm y)):=ag own7 rfl (by
    have e1:=ki (n:=old) (by have:=HS.out;omega)
    have e2:=ki (n:=top) (by omega)
    rw[jm,HSZ.out,HOD.out,HTP.out]
    simp only[bE,e1,e2,X8,List.cons_append,List.nil_append])
   clear own5 own5d ownN own7 hbx5 hbx5d HB5d s0 s1 s2 s3 hbxN HBN hbase10
   have hrn7:=((hrn5d.up hbN).up (aA (.cells #[.int .u8 (old:Int),.int .u8 (top:Int)] 5))).own gr7 hat7
   obtain⟨P1,hP1⟩:∃P,dG (n:Int) 1++fX L k++jm y=P:=⟨_,rfl⟩
   obtain⟨l7,hl7⟩:∃q,l+(1+sz)+2=q:=⟨_,rfl⟩
   rw[hP1,hl7] at own8
   rw[hl7] at hrn7
   have hl7b:l7<=1400100:=by omega
   have hP1l:P1.length=l7:=by have:=own8.1;rw[fF] at this;omega
   have HP1:=J0 hP1;have HPL:=J0 hP1l
   obtain⟨hbx7,_,_⟩:=HALL.out w7 HB7
   obtain⟨_,t1,_,_⟩:=hbx7.f2
   clear hP1 hP1l hl hbx7 hrn5 hrn5d gr7 hat7 hbN
   go_upto_region 9 with fail
   rw[hl7]
   clear t1 hl7
   go_loopw [3,7,8,56] (fun v _ _ ix wx=>∃(i l2:Nat),i<=m/\ix=.int .i64 i/\l2<=l7+i * 1331/\wx.ownsRow W.heap.size 5 1 v l2 (aH (P1++eG y i))/\Below W.heap.size W wx/\au (fun g=>v.ownBlock≠some g) wx (some nd) (ge (L.map (·.s)))) (fun _ _ _ ix _=>m - (intOf ix).toNat)
   case atStart=>exact⟨0,l7,by omega,rfl,by omega,by rw[oe,List.append_nil];exact own8,HB7,hrn7⟩
   case round=>
    rename EQ=>wx
    obtain⟨i,l2,him,rfl,hl2,own2,HB2,hrn2⟩:=hrel
    clear HB7 own8 hrn7
    obtain⟨V2,c2,rfl,_,_,_⟩:=aL own2
    by_cases hin:i<m
    ·obtain⟨X,hX⟩:∃X,d.xs[i]?=some X:=⟨_,J4 (by rw[HNL.out];exact hin)⟩
     obtain⟨t,ht⟩:∃t,X.t=t:=⟨_,rfl⟩
     have hyt:y.ts[i]?=some t:=by rw[<-HTB.out,Kv,hX,<-ht];rfl
     have hto:=HYO.out.ok t (J7 hyt)
     obtain⟨hrl,hrN,hlM,hokm⟩:=ae.1 hto.r
     obtain⟨_,hrd2,hrows2⟩:=HALL.out wx HB2
     obtain⟨t0,t1,t2⟩:=Rd.tab hrd2 hX
     obtain⟨rN,rM⟩:=hrows2 X (J7 hX)
     rw[ht] at t0 t1 t2 rN rM
     obtain⟨no,hno⟩:∃q,t.o.length=q:=⟨_,rfl⟩
     obtain⟨nf,hnf⟩:∃q,t.n.length=q:=⟨_,rfl⟩
     obtain⟨nm,hnm⟩:∃q,t.m.length=q:=⟨_,rfl⟩
     rw[hno] at t0;rw[hnf] at t1;rw[hnm] at t2
     have hnf16:=(aQ hrN).2
     rw[hnf] at hnf16
     have hmf:nm=nf:=by omega
     obtain⟨x2,hx2⟩:∃q,kN t.n=q:=⟨_,rfl⟩
     obtain⟨n2,hn2⟩:∃q,x2.length=q:=⟨_,rfl⟩
     have hn2b:0<n2/\n2<=289:=by
      have h1:=mj t.n
      rw[hx2,hn2] at h1
      have h2:x2=eQ t.n:=by rw[<-hx2,kN,Xz hrN]
      rw[h2,eQ] at hn2
      simp at hn2
      omega
     have hfb:kW t.n=dG (n2:Int) 2++x2:=by rw[kW,hx2,hn2]
     have nbT:=aA (w:=wx) (.cells #[.slice X.A no X.a,.slice X.B nf X.b,.slice X.C nm X.c] 96)
     have PT:=aD.new wx [.slice X.A no X.a,.slice X.B nf X.b,.slice X.C nm X.c] 96
     have hsepT:(Value.slice V2 l2 c2).ownBlock≠some wx.heap.size:=fun e=>by have:=aY own2 _ e;omega
     have own2a:=aG own2 nbT
     have hrn2a:=hrn2.up nbT
     have HB2a:=HB2.trans (nbT.mono HB2.size)
     have rNa:=rN.below nbT
     have HT:=J0 hyt;have HTO:=J0 hto;have HNF:=J0 hnf;have HNM:=J0 hnm;have HX2:=J0 hx2;have HN2:=J0 hn2;have HFB:=J0 hfb;have HMF:=J0 hmf;have HOKM:=J0 hokm;have HXm:=J0 (J7 hX);have HXT:=J0 ht
     clear hyt hto hnf hnm hx2 hn2 hfb hmf hokm hX ht hrl hrN hlM hno hrd2 hrows2 rN rM hrn2 own2 HB2
     go_upto_region 11 with fail
     generalize wx.alloc (.cells #[.slice X.A no X.a,.slice X.B nf X.b,.slice X.C nm X.c] 96)=wT at *
     generalize wx.heap.size=tb at *
     obtain⟨p0,p1,p2,_,_,_⟩:=PT.f3
     clear t0 t1 t2 nbT
     have hztb:=PT.lt
     go_upto_region 13 with (first
      |(go_at_call 60;refine(yp X.B X.b nf t.n HNF.out x2 HX2.out n2 HN2.out _ rfl _ rNa (by omega)).mono ?_;rintro e w4 ⟨B4,c4,rfl,hc4,r4,hb4⟩;have own4:=aG own2a hb4;have hrn4:=hrn2a.up hb4;have PT4:=PT.below hb4;have HB4:=HB2a.trans (hb4.mono HB2a.size))
      |(go_at_call 59;refine(ww _ n2 _ x2 HN2.out hn2b.1 2 (by omega) (tL (by omega)) (by omega) _ r4).mono ?_;rintro e w5 ⟨B5,c5',rfl,r5,hb5⟩;obtain⟨a5,ha5,hc5⟩:=r5.at_bytes (by rw[Vq,aX];omega);subst ha5;have own5:=aG own4 hb5;have hrn5:=hrn4.up hb5;have PT5:=PT4.below hb5;have HB5:=HB4.trans (hb5.mono HB4.size))
      |(at_builtin;refine Y4 _ rfl _ _ 44 rfl W.heap.size 5 i0 (.int .u8 0) 1 1 Tryz.underlying44 hi hz0 hz1 hz2 rfl (by decide) _ _ _ rfl own5 a5 (2+n2) c5' (aH (dG (n2:Int) 2++x2)) rfl ?c0 ?c1 ?c2 ?c3 ?c4 ?c5 ?_))
     case c0=>rw[fF,Vq,aX,HN2.out];omega
     case c1=>exact hc5
     case c2=>exact jt _
     case c3=>simp only[maxLen];omega
     case c4=>omega
     case c5=>exact HB5.size
     intro v6 w6 hown' hgrow _ hat
     have hrn6:=hrn5.own hgrow hat
     obtain⟨PT6,hsep6⟩:=qZ PT5 hsepT hgrow hat
     have HB6:=HB5.grown hgrow HB5.size (fun q hq=>aF own5 q hq)
     obtain⟨P2,hP2⟩:∃P,P1++eG y i++kW t.n=P:=⟨_,rfl⟩
     have own6:w6.ownsRow W.heap.size 5 1 v6 (l2+(2+n2)) (aH P2):=ag hown' (by simp) (by rw[<-hP2,HFB.out,bE (P1++eG y i)])
     obtain⟨V6,c6,rfl,_,_,_⟩:=aL own6
     have HP2:=J0 hP2
     clear hown' hgrow hat own5 own4 own2a hrn5 hrn4 hrn2a PT PT4 PT5 p0 p1 p2 hP2 hb4 hb5 HB2a HB4 HB5 r4 r5 hc5
     obtain⟨p0,p1,p2,_,_,_⟩:=PT6.f3
     go_upto_region 14 with fail
     clear p0 p1 p2
     obtain⟨l6,hl6⟩:∃q,l2+(2+n2)=q:=⟨_,rfl⟩
     rw[hl6] at own6 hrn6 hsep6 |-
     have hl6b:l6<=l2+291:=by omega
     go_loopw [3,11,12,74] (fun v _ _ ix wy=>∃(j l3:Nat),j<=nm/\ix=.int .i64 j/\l3<=l6+j * 65/\wy.ownsRow W.heap.size 5 1 v l3 (aH (P2++(if i=0 then[] else iR t j)))/\Below W.heap.size W wy/\au (fun g=>v.ownBlock≠some g) wy (some nd) (ge (L.map (·.s)))/\aD wy tb [.slice X.A no X.a,.slice X.B nf X.b,.slice X.C nm X.c] 96/\v.ownBlock≠some tb) (fun _ _ _ ix _=>nm - (intOf ix).toNat)
     case atStart=>exact⟨0,l6,by omega,rfl,by omega,by rw[pq,ite_self,List.append_nil];exact own6,HB6,hrn6,PT6,hsep6⟩
     case round=>
      rename EQ=>wy
      obtain⟨j,l3,hjm,rfl,hl3,own3,HB3,hrn3,PT3,hsep3⟩:=hrel
      clear HB6 own6 hrn6 PT6 hsep6
      obtain⟨V3,c3,rfl,_,_,_⟩:=aL own3
      by_cases hjn:j<nm
      ·obtain⟨mv,hmv⟩:∃q,t.m[j]?=some q:=⟨_,J4 (by rw[HNM.out];exact hjn)⟩
       obtain⟨f,hf⟩:∃q,t.n[j]?=some q:=⟨_,J4 (by rw[HNF.out];have:=HMF.out;omega)⟩
       obtain⟨_,_,hrows3⟩:=HALL.out wy HB3
       obtain⟨rN,rM⟩:=hrows3 X HXm.out
       rw[HXT.out] at rN rM
       obtain⟨md,hmd,m0,m1,m2,m3⟩:=rM.mv hmv
       have hok1:eW t.o f mv=true:=by
        have:=HOKM.out j (by rw[HNM.out];exact hjn)
        rwa [dN hmv hf] at this
       obtain⟨bb,hbb,hby⟩:=BQ hok1 (bN HTO.out.r).1
       have hw0:=HTO.out.w mv (J7 hmv)
       obtain⟨x,hx⟩:∃x,ip mv.d f=x:=⟨_,rfl⟩
       obtain⟨nx,hnx⟩:∃q,x.length=q:=⟨_,rfl⟩
       have hnx64:nx<=64:=by rw[<-hnx,<-hx];exact lD _ _
       obtain⟨x1,hx1⟩:∃q,(if mv.f=-1 then[255] else dG mv.f 1)=q:=⟨_,rfl⟩
       have hma:nk t j=x1++x:=by rw[nk,hmv,hf];show xz mv f=_;rw[xz,hx,hx1]
       rw[hx1] at hby
       have h0:(0:Int)<=(j:Int):=by omega
       have h1:(j:Int)<(nm:Int):=by omega
       have h2:(j:Int)<(nf:Int):=by have:=HMF.out;omega
       have nbM:=aA (w:=wy) (.cells #[.int .i64 mv.f,.int .i64 mv.d.k,.int .u64 mv.d.b,.string mv.d.t] 137)
       have PM:=aD.new wy [.int .i64 mv.f,.int .i64 mv.d.k,.int .u64 mv.d.b,.string mv.d.t] 137
       have own3a:=aG own3 nbM
       have hrn3a:=hrn3.up nbM
       have HB3a:=HB3.trans (nbM.mono HB3.size)
       have PT3a:=PT3.below nbM
       have rNa:=rN.below nbM
       rw[hmd] at PT3a |-
       have HX:=J0 hx;have HNX:=J0 hnx;have HMA:=J0 hma;have HBY:=J0 hby;have HF:=J0 hf;have HW0:=J0 hw0
       clear hmv hf hrows3 rN rM hok1 hw0 hx hnx hma hby own3 hrn3 HB3 PT3 hmd hx1
       go_upto_region 16 with fail
       generalize wy.alloc (.cells #[.int .i64 mv.f,.int .i64 mv.d.k,.int .u64 mv.d.b,.string mv.d.t] 137)=wq at *
       generalize wy.heap.size=mb at *
       clear m0 m1 m2 m3 nbM
       by_cases hi0:i=0
       ·subst hi0
        go_wp2
        go_roundw
        case rel=>
         refine⟨j+1,l3,by omega,by go_num,by omega,?_,HB3a,hrn3a,PT3a,hsep3⟩
         simpa using own3a
        case measure=>simp[intOf];omega
       ·have hi1:decide ((0:Int)<(i:Int))=true:=by simp;omega
        have hi2:(0:Int)<(i:Int):=by omega
        rw[Xy hi0] at own3a
        go_upto_region 17 with fail
        obtain⟨fd,hfd,_,_,_⟩:=rNa.fld HF.out
        have hcw:∀W',Below wq.heap.size wq W'->W'.cell? ⟨mb,1,none⟩=some (.int .i64 mv.d.k)/\W'.cell? ⟨mb,2,none⟩=some (.int .u64 mv.d.b)/\W'.cell? ⟨mb,3,none⟩=some (.string mv.d.t)/\W'.cell? ⟨tb,1,none⟩=some (.slice (some fd) nf X.b)/\W'.cell? (fd.add (j * 3))=some (.string f.s)/\W'.cell? ⟨(fd.add (j * 3)).block,(fd.add (j * 3)).off+(0+1),none⟩=some (.int .i64 f.k)/\W'.cell? ⟨(fd.add (j * 3)).block,(fd.add (j * 3)).off+(1+1),none⟩=some (.int .i64 f.l)/\Below wq.heap.size wq W':=fun W' hb=>by
         obtain⟨_,q1,q2,q3⟩:=(PM.below hb).f4
         obtain⟨_,q4,_,_,_,_⟩:=(PT3a.below hb).f3
         obtain⟨fd',e,q5,q6,q7⟩:=(rNa.below hb).fld HF.out
         rw[hfd] at e q4
         cases e
         exact⟨q1,q2,q3,q4,q5,q6,q7,hb⟩
        have HCW:=J0 hcw
        obtain⟨dk,hdk⟩:∃q,mv.d.k=q:=⟨_,rfl⟩
        clear hcw hfd hdk
        go_region_held3 (fun W'=>W'.cell? ⟨mb,1,none⟩=some (.int .i64 mv.d.k)/\W'.cell? ⟨mb,2,none⟩=some (.int .u64 mv.d.b)/\W'.cell? ⟨mb,3,none⟩=some (.string mv.d.t)/\W'.cell? ⟨tb,1,none⟩=some (.slice (some fd) nf X.b)/\W'.cell? (fd.add (j * 3))=some (.string f.s)/\W'.cell? ⟨(fd.add (j * 3)).block,(fd.add (j * 3)).off+(0+1),none⟩=some (.int .i64 f.k)/\W'.cell? ⟨(fd.add (j * 3)).block,(fd.add (j * 3)).off+(1+1),none⟩=some (.int .i64 f.l)/\Below wq.heap.size wq W') ((refine HCW.out _ ?_;repeat (first|assumption|exact Jy _ _|apply Jv)))
         ((go_at_call 61;obtain⟨_,_,_,_,_,_,_,HBx⟩:=‹_/\_/\_/\_/\_/\_/\_/\Below wq.heap.size wq _›;refine(Di mv.d f HW0.out.1 HW0.out.2 _ x HX.out nx HNX.out).mono ?_;rintro e wk ⟨By,cy,qy,rfl,hcy,ry,hy0,hbk⟩;have HBk:=aB HBx hbk))
        have ownk:=aG own3a HBk
        have hrnk:=hrn3a.up HBk
        have PTk:=PT3a.below HBk
        have HBk2:=HB3a.trans (HBk.mono HB3a.size)
        obtain⟨q0,_,_,_⟩:=(PM.below HBk).f4
        have rys:au (fun g=>(Value.slice V3 l3 c3).ownBlock≠some g) wk By (aH x):=ry.mono (fun g hg e=>by have h3:=aY own3a g e;have h4:=HBx.size;omega)
        clear own3a hrn3a PT3a HB3a HBk hbk PM rNa HCW ry
        have nb1:=aA (w:=wk) (.cells #[.int .u8 bb] 5)
        have ownk1:=aG ownk nb1
        go_wp2_with (at_builtin;refine Y4 _ rfl _ _ 44 rfl W.heap.size 5 i0 (.int .u8 0) 1 1 Tryz.underlying44 hi hz0 hz1 hz2 rfl (by decide) _ _ _ rfl ownk1 ⟨wk.heap.size,0,none⟩ 1 1 [.int .u8 bb] rfl rfl ?c1 ?c2 ?c3 ?c4 ?c5 ?_)
        case c1=>exact jD _ _ _ (by simp)
        case c2=>intro u hu;simp at hu;subst hu;rfl
        case c3=>simp only[maxLen];omega
        case c4=>omega
        case c5=>have:=HBk2.size;simp;omega
        intro v9 w9 hown9 hgrow9 _ hat9'
        have hat9:v9.ownBlock=(Value.slice V3 l3 c3).ownBlock\/v9.ownBlock=some (wk.alloc (.cells #[.int .u8 bb] 5)).heap.size:=by rw[Jq];exact hat9'
        have hrn9:=(hrnk.up nb1).own hgrow9 hat9
        have ry9:=(rys.up nb1).own hgrow9 hat9
        obtain⟨PT9,hsep9⟩:=qZ (PTk.below nb1) hsep3 hgrow9 hat9
        have HB9:=(HBk2.trans (nb1.mono HBk2.size)).grown hgrow9 (by have:=HBk2.size;simp;omega) (fun q hq=>aF ownk1 q hq)
        have own9:w9.ownsRow W.heap.size 5 1 v9 (l3+1) (aH (P2++iR t j++x1)):=ag hown9 rfl (by rw[bE (P2++iR t j),HBY.out])
        obtain⟨V9,c9,rfl,_,_,_⟩:=aL own9
        clear hown9 hgrow9 hat9 hat9' ownk1 ownk hrnk rys PTk nb1 q0
        by_cases hnx0:nx=0
        ·obtain⟨hBy,hcy0⟩:=hy0 hnx0
         have hx0:x=[]:=List.eq_nil_of_length_eq_zero (by rw[HNX.out];exact hnx0)
         have own10:w9.ownsRow W.heap.size 5 1 (.slice V9 (l3+1) c9) (l3+1) (aH (P2++iR t (j+1))):=by
          have e:P2++iR t (j+1)=P2++iR t j++x1:=by
           rw[gx,HMA.out,hx0]
           simp only[X8,List.append_nil]
          rw[e];exact own9
         rw[hBy,hcy0,hnx0]
         have HI0:=J0 hi0
         clear hnx0 hBy hcy0 hx0 hi0
         go_wp2_with (at_builtin;refine ku rfl _ _ 44 rfl W.heap.size 5 i0 1 Tryz.underlying44 hi _ (l3+1) _ rfl own9 rfl ?_)
         go_roundw
         case rel=>exact⟨j+1,l3+1,by omega,by go_num,by omega,by rw[Xy HI0.out];exact own10,HB9,hrn9,PT9,hsep9⟩
         case measure=>simp[intOf];omega
        ·obtain⟨ay,hay,hcy9⟩:=ry9.rd.at_bytes (by rw[HNX.out];omega)
         subst hay
         go_wp2_with (at_builtin;refine Y4 _ rfl _ _ 44 rfl W.heap.size 5 i0 (.int .u8 0) 1 1 Tryz.underlying44 hi hz0 hz1 hz2 rfl (by decide) _ _ _ rfl own9 ay nx cy (aH x) rfl ?c0 ?c1 ?c2 ?c3 ?c4 ?c5 ?_)
         case c0=>rw[fF,HNX.out];omega
         case c1=>exact hcy9
         case c2=>exact jt _
         case c3=>simp only[maxLen];omega
         case c4=>omega
         case c5=>exact HB9.size
         intro v10 w10 hown10 hgrow10 _ hat10
         have hrn10:=hrn9.own hgrow10 hat10
         obtain⟨PT10,hsep10⟩:=qZ PT9 hsep9 hgrow10 hat10
         have HB10:=HB9.grown hgrow10 HB9.size (fun q hq=>aF own9 q hq)
         have own10:w10.ownsRow W.heap.size 5 1 v10 (l3+1+nx) (aH (P2++iR t (j+1))):=ag hown10 rfl (by
          rw[gx,HMA.out,<-bE]
          congr 1
          simp only[X8])
         obtain⟨V10,c10,rfl,_,_,_⟩:=aL own10
         have HI0:=J0 hi0
         clear own9 hown10 hgrow10 hat10 hcy9 ry9 hrn9 PT9 hsep9 HB9 hi0
         go_wp2
         go_roundw
         case rel=>exact⟨j+1,l3+1+nx,by omega,by go_num,by omega,by rw[Xy HI0.out];exact own10,HB10,hrn10,PT10,hsep10⟩
         case measure=>simp[intOf];omega
      ·obtain rfl:j=nm:=by omega
       have hfin:P2++(if i=0 then[] else iR t j)=P1++eG y (i+1):=by
        rw[ic,gk,HT.out,<-HP2.out]
        show _=P1++(eG y i++oc i t)
        rw[oc,HNM.out]
        simp only[X8]
       rw[hfin] at own3
       clear hfin
       go_wp2
       go_roundw
       case rel=>exact⟨i+1,l3,by omega,by go_num,by have:=HMF.out;omega,own3,HB3,hrn3⟩
       case measure=>simp[intOf];omega
    ·obtain rfl:i=m:=by omega
     have htl:y.ts.length=i:=by rw[<-HTB.out,Kz];exact HNL.out
     have hfin:P1++eG y i=dG (n:Int) 1++fX L (k+1):=by
      rw[lX HY.out,<-HP1.out,AU,htl]
      simp only[X8]
     rw[hfin] at own2
     have hlen2:Hid ((dG (n:Int) 1++fX L (k+1)).length=l2):=J0 (by have:=own2.1;rw[fF] at this;omega)
     clear hfin htl
     go_wp2
     go_roundw
     case rel=>exact⟨k+1,l2,by omega,by go_num,hlen2,own2,HB2,hrn2⟩
     case measure=>simp[intOf];omega
  ·obtain rfl:k=n:=by omega
   have hcat:dG (k:Int) 1++fX L k=eL L:=by rw[eL,HN.out]
   rw[hcat] at hown hl
   have hzz:l=z:=by rw[<-hl.out,HZ.out]
   subst hzz
   obtain⟨B',c',e,hvc,hvm,r⟩:=aL hown
   cases e
   have HV1:=J0 hvc;have HV2:=J0 hvm
   clear hown hvc hvm
   go_wp2
   go_ret
   exact⟨V,vc,rfl,HV1.out,HV2.out,r,HB⟩
theorem kz {W:EQ} {cp mp:Nat} {E:List En} {es:List MapEntry} {clock:Nat} (h:aa 89 80 W cp mp E es clock) (hok:Wq (E.map (·.y))) (L:List Ty) (hL:L.Perm (E.map (·.y))) (hrk:bU L) (z:Nat) (hz:(eL L).length=z):
 Calls Tryz.prog 27 #[.pointer (some ⟨cp,0,none⟩)] W fun e w'=>∃B c,e=.returned (.slice B z c)/\Rd w' B (aH (eL L))/\Below W.heap.size W w':=by
 refine(ky h hok L hL hrk z hz).mono ?_
 rintro e w' ⟨B,c,h1,_,_,h2,h3⟩
 exact⟨B,c,h1,h2,h3⟩
theorem nh {n:Nat} (h:n<256):dG (n:Int) 1=[UInt8.ofNat ((n:Int)).toNat]:=by
 simp only[dG,List.range_one,List.map_cons,List.map_nil,dx]
 congr 2
 simp
 omega
theorem ws (A:EL) (c m:Nat) (fs:List Fd) (hm:fs.length=m) (hl:m<=9223372036854775807) (hs:gL fs) (p:EP) (hp:aR (kW fs)=p) (w:EQ) (hA:Rd w A (aC fs)):
 Calls Tryz.prog 84 #[.slice A m c] w fun e w'=>e=.returned (.string p)/\Below w.heap.size w w':=by
 subst hm
 obtain⟨x,hx⟩:∃x,kN fs=x:=⟨_,rfl⟩
 obtain⟨sx,hsx⟩:∃s,aR x=s:=⟨_,rfl⟩
 obtain⟨q,hq⟩:∃q,uS fs=q:=⟨_,rfl⟩
 obtain⟨n,hn⟩:∃n,sx.size=n:=⟨_,rfl⟩
 have hn2:x.length=n:=by rw[<-hn,<-hsx,aj]
 have hnb:n<=289:=by have:=mj fs;rw[hx] at this;omega
 obtain⟨px,hpx⟩:∃s,aR (rJ (n:Int) 2)=s:=⟨_,rfl⟩
 have hput:rJ (n:Int) 2=dG (n:Int) 2:=by rw[rJ,Xz (tL (by omega))]
 have hfin:px++sx=p:=by rw[<-hp,kW,hx,hn2,<-hpx,hput,<-hsx,bT]
 have hps:px.size=2:=by rw[<-hpx,aj,hput,aX]
 have hwn:IntKind.u64.wrap (sx.size:Int)=(n:Int):=by rw[hn];exact IntWalk.u64_in _ (by omega)
 have z1:¬9223372036854775807<px.size+n:=by omega
 have z2:¬9223372036854775807<px.size+sx.size:=by omega
 have henc:=jJ A c fs w hA hl hs
 rw[hx,hsx,hq] at henc
 have HEN:=J0 henc;have HPX:=J0 hpx;have HF:=J0 hfin;have HN:=J0 hn
 clear hx hsx hq hn2 hput hfin hpx hps henc hp
 go_enter Tryz.func84,Tryz.ntmps84
 go_upto_region 2 with (go_at_call 123;refine HEN.out.mono ?_;rintro e w1 ⟨rfl,HB⟩)
 go_wp2_with (go_at_call 83;refine(kK (n:Int) 2 (by omega) (by omega) (by omega) _).mono ?_;rw[HPX.out];rintro e w2 ⟨rfl,hb2⟩)
 go_ret
 exact⟨by rw[HF.out];rfl,HB.trans (hb2.mono HB.size)⟩
theorem yW {y:Ty} {t:Tb} (h:y.ts[0]?=some t):eG y 1=kW t.n:=by
 rw[ic,oe,gk,h]
 simp[oc]
theorem Ay {w:EQ} {A:EL} {fv:List FV} (h:Rd w A (bJ fv)) {v:FV} (hv:fv[0]?=some v):∃ad,A=some ad/\w.cell? ad=some (.slice v.A v.l.length v.a):=by
 obtain⟨ad,e,hc⟩:=h.fv hv
 rw[Addr.add_zero'] at hc
 exact⟨ad,e,hc⟩
theorem Rd.tabv {W:EQ} {A:EL} {xs:List bB} (h:Rd W A (ah xs)) {i:Nat} {x:bB} (hx:xs[i]?=some x):∃ad,A=some ad/\W.cell? ⟨(ad.add (i * 3)).block,(ad.add (i * 3)).off+(1+1),none⟩=some (.slice x.C x.t.m.length x.c):=by
 obtain⟨h0,h1,h2⟩:=nI hx
 obtain⟨ad,e,hc⟩:=h (by intro e;rw[e] at h0;simp at h0)
 have q2:=hc (i * 3+2) _ h2
 rw[ba _ _ 1] at q2
 exact⟨ad,e,q2⟩
theorem kG {Q:Nat->Prop} {w:EQ} {A:EL} {c:Nat} {X:List bk} (h:bZ Q w A c X) (n:Nat) (hn:X.length=n) (hok:Wq (X.map (·.y))) (p:EP) (hp:aR (eL (X.map (·.y)))=p):
 Calls Tryz.prog 46 #[.slice A n c] w fun e w'=>e=.returned (.string p)/\Below w.heap.size w w':=by
 have h16:n<=16:=by have:=hok.len;rw[Kz,hn] at this;exact this
 have hrow:=h.row
 obtain⟨L,hL⟩:∃L,X.map (·.y)=L:=⟨_,rfl⟩
 have hLn:L.length=n:=by rw[<-hL,Kz];exact hn
 have hwn:IntKind.u64.wrap (n:Int)=(n:Int):=IntWalk.u64_in _ (by omega)
 obtain⟨p0,hp0⟩:∃q,aR [UInt8.ofNat ((n:Int)).toNat]=q:=⟨_,rfl⟩
 have hp0':aR (dG (n:Int) 1++fX L 0)=p0:=by rw[lY,List.append_nil,nh (by omega)];exact hp0
 have HN:=J0 hn;have HH:=J0 h;have HOK:=J0 hok;have HL:=J0 hL;have HLN:=J0 hLn;have HP:=J0 hp;have HP0:=J0 hp0;have HP0':=J0 hp0'
 clear hn h hok hL hLn hp hp0 hp0'
 go_enter Tryz.func46,Tryz.ntmps46
 go_upto_region 3 with (go_at_call 83;refine(ez (n:Int) (by omega) (by omega) p0 HP0.out _).mono ?_;rintro e w1 ⟨rfl,HB0⟩)
 go_loopw [3,4] (fun v i wr=>∃(k:Nat) (acc:EP),k<=n/\i=.int .i64 k/\v=.string acc/\Hid (aR (dG (n:Int) 1++fX L k)=acc)/\Below w.heap.size w wr) (fun _ i _=>n - (intOf i).toNat)
 case atStart=>exact⟨0,p0,by omega,rfl,rfl,HP0',HB0⟩
 case round=>
  obtain⟨k,acc,hk,rfl,rfl,hacc,HB⟩:=hrel
  clear HB0
  by_cases hlt:k<n
  ·obtain⟨x,hx⟩:∃x,X[k]?=some x:=⟨_,J4 (by rw[HN.out];exact hlt)⟩
   have hxm:=J7 hx
   have hLk:L[k]?=some x.y:=by rw[<-HL.out,Kv,hx];rfl
   have hyo:=HOK.out.oks x hxm
   have hI:=HH.out.ty x hxm
   obtain⟨hfl,htl⟩:=hI.len
   obtain⟨nf,hnf⟩:∃m,x.fv.length=m:=⟨_,rfl⟩
   obtain⟨nt,hnt⟩:∃m,x.tv.length=m:=⟨_,rfl⟩
   obtain⟨top,htop⟩:∃m,x.y.top=m:=⟨_,rfl⟩
   have hlen:0<x.y.ts.length:=by cases hx:x.y.ts with|nil=>exact absurd hx hyo.ne|cons a r=>simp
   have hft:nf=nt+1:=by omega
   have hsum:x.y.old+nf=top+1:=by have h2:x.y.top=x.y.old+x.y.ts.length - 1:=rfl;omega
   have hhi:top<=64:=by have:=hyo.hi;omega
   have hlo:=hyo.lo
   have hnf64:nf<=64:=by omega
   have hnt63:nt<=63:=by omega
   obtain⟨sz,hsz⟩:∃q,x.y.s.size=q:=⟨_,rfl⟩
   have hsz15:sz<=15:=by
    have hym:=hyo.nm
    unfold bI at hym
    rw[Qz] at hym
    have:=Yv hym.2
    omega
   obtain⟨V0,hV0⟩:∃V,x.fv[0]?=some V:=⟨_,J4 (by omega)⟩
   obtain⟨t0,ht0⟩:∃t,x.y.ts[0]?=some t:=⟨_,J4 (by omega)⟩
   have hV0l:V0.l=t0.n:=by
    have h1:(x.fv.map (·.l))[0]?=some V0.l:=by rw[Kv,hV0];rfl
    rw[hI.eF,Kv,ht0] at h1
    exact(Jj h1).symm
   obtain⟨m0,hm0⟩:∃q,V0.l.length=q:=⟨_,rfl⟩
   have hm016:m0<=16:=by rw[<-hm0,hV0l];exact(bN (hyo.ok t0 (J7 ht0)).r).2.1
   have hV0s:gL V0.l:=by rw[hV0l];exact(hyo.ok t0 (J7 ht0)).n.fds
   have hV0r:=hI.fl V0 (J7 hV0)
   obtain⟨old,hold⟩:∃q,x.y.old=q:=⟨_,rfl⟩
   obtain⟨p1,hp1⟩:∃q,aR [UInt8.ofNat ((sz:Int)).toNat]=q:=⟨_,rfl⟩
   obtain⟨p2,hp2⟩:∃q,aR [UInt8.ofNat ((old:Int)).toNat]=q:=⟨_,rfl⟩
   obtain⟨p3,hp3⟩:∃q,aR [UInt8.ofNat ((top:Int)).toNat]=q:=⟨_,rfl⟩
   obtain⟨p4,hp4⟩:∃q,aR (kW V0.l)=q:=⟨_,rfl⟩
   have l1:p1.size=1:=by rw[<-hp1,aj];rfl
   have l2:p2.size=1:=by rw[<-hp2,aj];rfl
   have l3:p3.size=1:=by rw[<-hp3,aj];rfl
   have l4:p4.size<=291:=by rw[<-hp4,aj];exact kX _
   have hal:acc.size<=1400000:=by
    rw[<-hacc.out,aj,Vq,aX]
    have:=kt (L:=L) (fun y hy=>HOK.out.ok y (by rw[HL.out];exact hy)) (by rw[HLN.out];omega) k
    omega
   have hend:acc++p1++x.y.s++p2++p3++p4=aR (dG (n:Int) 1++fX L k++jm x.y++eG x.y 1):=by
    rw[yW ht0,jm,hsz,hold,htop,<-hacc.out,<-hp1,<-hp2,<-hp3,<-hp4,hV0l,nh (n:=sz) (by omega),nh (n:=old) (by omega),nh (n:=top) (by omega)]
    conv=>lhs;rw[<-cl x.y.s]
    simp only[bT,X8]
   have z1:¬9223372036854775807<acc.size+p1.size:=by omega
   have z2:¬9223372036854775807<acc.size+p1.size+x.y.s.size:=by omega
   have z3:¬9223372036854775807<acc.size+p1.size+x.y.s.size+p2.size:=by omega
   have z4:¬9223372036854775807<acc.size+p1.size+x.y.s.size+p2.size+p3.size:=by omega
   have z5:¬9223372036854775807<acc.size+p1.size+x.y.s.size+p2.size+p3.size+p4.size:=by omega
   obtain⟨ad,rfl,c0,c1,c2,c3⟩:=(hrow.below HB).ty hx
   rw[hnf] at c2;rw[hnt] at c3
   have nb:=aA (w:=wr) (.cells #[.string x.y.s,.int .i64 (x.y.old:Nat),.slice x.F nf x.f,.slice x.T nt x.t] 58)
   have P:=aD.new wr [.string x.y.s,.int .i64 (x.y.old:Nat),.slice x.F nf x.f,.slice x.T nt x.t] 58
   have h0:(0:Int)<=(k:Int):=by omega
   have h1:(k:Int)<(n:Int):=by omega
   have hw1:IntKind.u64.wrap (x.y.s.size:Int)=(sz:Int):=by rw[hsz];exact IntWalk.u64_in _ (by omega)
   have hw2:IntKind.u64.wrap (old:Int)=(old:Int):=IntWalk.u64_in _ (by omega)
   have hw3:IntKind.u64.wrap (top:Int)=(top:Int):=IntWalk.u64_in _ (by omega)
   have hsum':old+nf=top+1:=by omega
   have ho65:old<=65:=by omega
   have HX:=J0 hx;have HLK:=J0 hLk;have HYO:=J0 hyo;have HIS:=J0 hI;have HNF:=J0 hnf;have HNT:=J0 hnt;have HFT:=J0 hft;have HS:=J0 hsum';have HM0:=J0 hm0;have HP1:=J0 hp1;have HP2:=J0 hp2;have HP3:=J0 hp3;have HP4:=J0 hp4;have HE:=J0 hend;have HV0:=J0 hV0;have HV0S:=J0 hV0s
   have HB5:=HB.trans (nb.mono HB.size)
   rw[hold] at c1 P nb HB5
   clear hx hLk hyo hI hnf hnt hft hsum hsum' hm0 hp1 hp2 hp3 hp4 hend hV0 hV0s hfl htl hlen htop hold hlo hsz hxm hV0l ht0 l1 l2 l3 l4 hal
   go_upto_region 6 with fail
   generalize wr.alloc (.cells #[.string x.y.s,.int .i64 (old:Nat),.slice x.F nf x.f,.slice x.T nt x.t] 58)=W5 at *
   generalize wr.heap.size=xb at *
   clear c0 c1 c2 c3 nb
   obtain⟨fa,hfa,hF0⟩:=Ay HIS.out.rF.rd HV0.out
   rw[hfa] at P
   rw[HM0.out] at hF0
   have HFA:=J0 hfa
   clear hfa
   have hcl:∀W',Below W5.heap.size W5 W'->W'.cell? ⟨xb,0,none⟩=some (.string x.y.s)/\W'.cell? ⟨xb,1,none⟩=some (.int .i64 (old:Nat))/\W'.cell? ⟨xb,2,none⟩=some (.slice (some fa) nf x.f)/\W'.cell? ⟨xb,3,none⟩=some (.slice x.T nt x.t)/\W'.cell? fa=some (.slice V0.A m0 V0.a):=fun W' hb=>by
    obtain⟨q0,q1,q2,q3⟩:=(P.below hb).f4
    exact⟨q0,q1,q2,q3,aE (B:=0) (HB5.trans (hb.mono HB5.size)) hF0⟩
   have HCL:=J0 hcl
   have hnf0:(0:Int)<(nf:Int):=by have:=HFT.out;omega
   have hnf1:0<nf:=by have:=HFT.out;omega
   clear hcl
   refine RW.start (fun w'=>Below W5.heap.size W5 w') (by kernel_rfl) (by kernel_rfl) (Jy _ _).drew ?_
   repeat (first
    |(refine' RW.val (by rfl) ?_ ?_;rotate_left;(focus (intro w' hS;have HB6:=hS;obtain⟨a0,a1,a2,a3,a4⟩:=HCL.out _ HB6;clear hS;go_simp;rfl));simp only[Act.put,J1,J3,J2])
    |(refine RW.off (by rfl) ?_;simp only[Act.put,J1,J3,J2])
    |(refine' RW.call (by rfl) ?_ ?_ ?_
      rotate_left 3
      (focus (intro w' hS;have HB6:=hS;obtain⟨a0,a1,a2,a3,a4⟩:=HCL.out _ HB6;clear hS;go_simp;exact⟨rfl,rfl⟩))
      (focus
        intro w' hS
        have HB6:=hS;obtain⟨a0,a1,a2,a3,a4⟩:=HCL.out _ HB6;clear hS
        first
         |((with_reducible refine(ez (sz:Int) (by omega) (by omega) p1 HP1.out _).mono ?_);rintro e w1 ⟨rfl,hb⟩;exact⟨rfl,(aB HB6 hb)⟩)
         |((with_reducible refine(ez (old:Int) (by omega) (by omega) p2 HP2.out _).mono ?_);rintro e w1 ⟨rfl,hb⟩;exact⟨rfl,(aB HB6 hb)⟩)
         |((with_reducible refine(ez (top:Int) (by omega) (by omega) p3 HP3.out _).mono ?_);rintro e w1 ⟨rfl,hb⟩;exact⟨rfl,(aB HB6 hb)⟩)
         |((with_reducible refine(dO x.y.s old nf (some fa) x.f x.T nt x.t top HS.out (by omega) _).mono ?_);rintro e w1 ⟨rfl,hb⟩;exact⟨rfl,(aB HB6 hb)⟩)
         |((with_reducible refine(ws V0.A V0.a m0 V0.l HM0.out (by omega) HV0S.out p4 HP4.out _ (hV0r.below (HB5.trans (HB6.mono HB5.size)))).mono ?_);rintro e w1 ⟨rfl,hb⟩;exact⟨rfl,(aB HB6 hb)⟩))
      simp only[Act.put,J1,J3,J2]))
   refine RW.done (fun w' hS=>?_)
   have HB6:=hS;obtain⟨a0,a1,a2,a3,a4⟩:=HCL.out _ HB6;clear hS
   obtain⟨P1,hP1⟩:∃q,dG (n:Int) 1++fX L k++jm x.y=q:=⟨_,rfl⟩
   have hP1l:P1.length<=1400100:=by
    rw[<-hP1,Vq,Vq,aX]
    have h2:=kt (L:=L) (fun y hy=>HOK.out.ok y (by rw[HL.out];exact hy)) (by rw[HLN.out];omega) k
    have h3:=pk HYO.out
    omega
   obtain⟨acc1,hacc1⟩:∃q,acc++p1++x.y.s++p2++p3++p4=q:=⟨_,rfl⟩
   have HA1:Hid (aR (P1++eG x.y (0+1))=acc1):=J0 (by rw[<-hacc1,HE.out,hP1])
   have HPP:=J0 hP1
   rw[hacc1]
   clear hacc1 hP1 z1 z2 z3 z4 z5 hw1 hw2 hw3 HE HP1 HP2 HP3 HP4 hacc a0 a1 a2 a3 a4
   go_upto_region 8 with fail
   have HB6':=HB6
   clear HB6
   go_loopw [3,6] (fun v ix wx=>∃(i:Nat) (acc2:EP),i<=nt/\ix=.int .i64 i/\v=.string acc2/\Hid (aR (P1++eG x.y (i+1))=acc2)/\Below W5.heap.size W5 wx) (fun _ ix _=>nt - (intOf ix).toNat)
   case atStart=>exact⟨0,acc1,by omega,rfl,rfl,HA1,HB6'⟩
   case round=>
    rename EQ=>wx
    obtain⟨i,acc2,hi,rfl,rfl,hacc2,HBx⟩:=hrel
    clear HB6' HA1
    obtain⟨a0,a1,a2,a3,_⟩:=HCL.out wx HBx
    by_cases hin:i<nt
    ·obtain⟨TV,hTV⟩:∃q,x.tv[i]?=some q:=⟨_,J4 (by rw[HNT.out];exact hin)⟩
     obtain⟨t,ht⟩:∃t,TV.t=t:=⟨_,rfl⟩
     have hyt:x.y.ts[i+1]?=some t:=by
      have h1:(x.tv.map (·.t))[i]?=some t:=by rw[Kv,hTV,<-ht];rfl
      rw[HIS.out.eT,List.getElem?_tail] at h1
      exact h1
     obtain⟨V,hV⟩:∃V,x.fv[i+1]?=some V:=⟨_,J4 (by rw[HNF.out,HFT.out];omega)⟩
     have hVl:V.l=t.n:=by
      have h1:(x.fv.map (·.l))[i+1]?=some V.l:=by rw[Kv,hV];rfl
      rw[HIS.out.eF,Kv,hyt] at h1
      exact(Jj h1).symm
     have hto:=HYO.out.ok t (J7 hyt)
     obtain⟨hrl,hrN,hlM,hokm⟩:=ae.1 hto.r
     obtain⟨m1,hm1⟩:∃q,V.l.length=q:=⟨_,rfl⟩
     have hm116:m1<=16:=by rw[<-hm1,hVl];exact(bN hto.r).2.1
     obtain⟨nm,hnm⟩:∃q,t.m.length=q:=⟨_,rfl⟩
     have hnm1:nm=m1:=by rw[<-hm1,hVl];omega
     have hVs:gL V.l:=by rw[hVl];exact hto.n.fds
     obtain⟨fa',e,hVc⟩:=HIS.out.rF.rd.fv hV
     rw[HFA.out] at e
     cases e
     rw[hm1] at hVc
     have hVr:=HIS.out.fl V (J7 hV)
     obtain⟨ta,hta,hTc⟩:=HIS.out.rT.rd.tabv hTV
     rw[ht,hnm] at hTc
     have hMr:=(HIS.out.tb TV (J7 hTV)).2.2
     rw[ht] at hMr
     have HBw:∀W',Below W5.heap.size W5 W'->Below w.heap.size w W':=fun W' hb=>HB5.trans (hb.mono HB5.size)
     obtain⟨pf,hpf⟩:∃q,aR (kW V.l)=q:=⟨_,rfl⟩
     have lf:pf.size<=291:=by rw[<-hpf,aj];exact kX _
     have la:acc2.size<=1500000:=by
      rw[<-hacc2.out,aj,Vq]
      have h1:=lW HYO.out (i+1)
      omega
     have z1:¬9223372036854775807<acc2.size+pf.size:=by omega
     obtain⟨ii,hii⟩:∃ii,i+1=ii:=⟨_,rfl⟩
     have hw1:IntKind.i64.wrap ((i:Int)+1)=(ii:Int):=(Xj _ (by omega)).trans (by omega)
     have g0:(0:Int)<=(ii:Int):=by omega
     have g1:(ii:Int)<(nf:Int):=by have:=HFT.out;omega
     rw[hii] at hVc
     have HII:=J0 hii
     have HT:=J0 hyt;have HTO:=J0 hto;have HVL:=J0 hVl;have HM1:=J0 hm1;have HNM:=J0 hnm;have HNM1:=J0 hnm1;have HVS:=J0 hVs;have HPF:=J0 hpf;have HOKM:=J0 hokm;have HTA:=J0 hta
     have hVcx:=aE (B:=0) (HBw _ HBx) hVc
     clear hyt hto hVl hm1 hnm hnm1 hVs hpf hokm hTV ht hV hrl hrN hlM hta hii
     go_upto_region 11 with (go_at_call 84;refine(ws V.A V.a m1 V.l HM1.out (by omega) HVS.out pf HPF.out _ (hVr.below (HBw _ HBx))).mono ?_;rintro e w6 ⟨rfl,hb6⟩;have HB7:=HBx.trans (hb6.mono HBx.size))
     rename EQ=>w6
     obtain⟨acc3,hacc3⟩:∃q,acc2++pf=q:=⟨_,rfl⟩
     obtain⟨P2,hP2⟩:∃q,P1++eG x.y (i+1)++kW t.n=q:=⟨_,rfl⟩
     have hP2l:P2.length<=1500000:=by
      rw[<-hP2,Vq,Vq]
      have h1:=lW HYO.out (i+1)
      have h2:=kX t.n
      omega
     have HA3:Hid (aR (P2++iR t 0)=acc3):=J0 (by rw[pq,List.append_nil,<-hacc3,<-hacc2.out,<-HPF.out,HVL.out,bT,hP2])
     have HP2:=J0 hP2
     rw[hacc3]
     clear hacc3 hP2 z1 hb6 a0 a1 a2 a3 hVcx la
     go_upto_region 12 with fail
     go_loopw [3,7] (fun v jx wy=>∃(j:Nat) (acc4:EP),j<=nm/\jx=.int .i64 j/\v=.string acc4/\Hid (aR (P2++iR t j)=acc4)/\Below W5.heap.size W5 wy) (fun _ jx _=>nm - (intOf jx).toNat)
     case atStart=>exact⟨0,acc3,by omega,rfl,rfl,HA3,HB7⟩
     case round=>
      rename EQ=>wy
      obtain⟨j,acc4,hj,rfl,rfl,hacc4,HBy⟩:=hrel
      clear HB7 HA3
      obtain⟨a0,a1,a2,a3,_⟩:=HCL.out wy HBy
      rw[HTA.out] at a3
      have t2:=aE (B:=0) (HBw _ HBy) hTc
      have i0:(0:Int)<=(i:Int):=by omega
      have i1:(i:Int)<(nt:Int):=by omega
      by_cases hjn:j<nm
      ·obtain⟨mv,hmv⟩:∃q,t.m[j]?=some q:=⟨_,J4 (by rw[HNM.out];exact hjn)⟩
       obtain⟨f,hf⟩:∃q,t.n[j]?=some q:=⟨_,J4 (by have h1:=HNM1.out;have h2:=HM1.out;rw[HVL.out] at h2;omega)⟩
       have hok1:eW t.o f mv=true:=by
        have:=HOKM.out j (by rw[HNM.out];exact hjn)
        rwa [dN hmv hf] at this
       have hw0:=HTO.out.w mv (J7 hmv)
       obtain⟨md,hmd,m0',m1',m2',m3'⟩:=(hMr.below (HBw _ HBy)).mv hmv
       have j0:(0:Int)<=(j:Int):=by omega
       have j1:(j:Int)<(nm:Int):=by omega
       have nbM:=aA (w:=wy) (.cells #[.int .i64 mv.f,.int .i64 mv.d.k,.int .u64 mv.d.b,.string mv.d.t] 157)
       have PM:=aD.new wy [.int .i64 mv.f,.int .i64 mv.d.k,.int .u64 mv.d.b,.string mv.d.t] 157
       have HBq:=HBy.trans (nbM.mono HBy.size)
       have hma:nk t j=xz mv f:=by rw[nk,hmv,hf]
       have la4:acc4.size<=1600000:=by
        rw[<-hacc4.out,aj,Vq]
        have h1:=tV t j
        have h2:=HNM1.out
        omega
       rw[hmd] at t2
       have HMV:=J0 hmv;have HF:=J0 hf;have HOK1:=J0 hok1;have HW0:=J0 hw0;have HMA:=J0 hma
       clear hmv hf hok1 hw0 hma hmd
       go_upto_region 15 with fail
       generalize wy.alloc (.cells #[.int .i64 mv.f,.int .i64 mv.d.k,.int .u64 mv.d.b,.string mv.d.t] 157)=wq at *
       generalize wy.heap.size=mb at *
       clear m0' m1' m2' m3' nbM a0 a1 a2 a3 t2
       obtain⟨q0,q1,q2,q3⟩:=PM.f4
       by_cases hfn:mv.f=-1
       ·have e1:(mv.f == -1)=true:=by simpa using hfn
        obtain⟨px,hpx⟩:∃q,tH mv.d.k mv.d.b mv.d.t f.k f.l=q:=⟨_,rfl⟩
        obtain⟨qx,hqx⟩:∃q,tF mv.d.k mv.d.b mv.d.t f.k f.l=q:=⟨_,rfl⟩
        have hpx2:px=aR (ip mv.d f):=by rw[<-hpx,tH,ip];split <;> rfl
        have lx:px.size<=64:=by rw[hpx2,aj];exact lD _ _
        obtain⟨acc5,hacc5⟩:∃q,acc4++(⟨#[255]⟩:EP)++px=q:=⟨_,rfl⟩
        have HA5:Hid (aR (P2++iR t (j+1))=acc5):=J0 (by
         rw[gx,HMA.out,xz,Xz hfn,<-hacc5,hpx2,<-hacc4.out]
         have e255:(⟨#[255]⟩:EP)=aR [255]:=rfl
         rw[e255]
         simp only[bT,X8])
        have sz255:(⟨#[255]⟩:EP).size=1:=rfl
        have y1:¬9223372036854775807<acc4.size+1:=by omega
        have y2:¬9223372036854775807<acc4.size+1+px.size:=by omega
        have HPX:=J0 hpx;have HQX:=J0 hqx;have HA5':=J0 hacc5
        have hcq:∀W',Below wq.heap.size wq W'->W'.cell? ⟨mb,1,none⟩=some (.int .i64 mv.d.k)/\W'.cell? ⟨mb,2,none⟩=some (.int .u64 mv.d.b)/\W'.cell? ⟨mb,3,none⟩=some (.string mv.d.t)/\W'.cell? ⟨xb,2,none⟩=some (.slice (some fa) nf x.f)/\W'.cell? (fa.add ii)=some (.slice V.A m1 V.a)/\∃fd,V.A=some fd/\W'.cell? (fd.add (j * 3))=some (.string f.s)/\W'.cell? ⟨(fd.add (j * 3)).block,(fd.add (j * 3)).off+(0+1),none⟩=some (.int .i64 f.k)/\W'.cell? ⟨(fd.add (j * 3)).block,(fd.add (j * 3)).off+(1+1),none⟩=some (.int .i64 f.l):=fun W' hb=>by
         have hb5:=HBq.trans (hb.mono HBq.size)
         obtain⟨_,r1,r2,r3⟩:=(PM.below hb).f4
         obtain⟨_,_,r4,_,_⟩:=HCL.out W' hb5
         exact⟨r1,r2,r3,r4,aE (B:=0) (HBw _ hb5) hVc,(hVr.below (HBw _ hb5)).fld (by rw[HVL.out];exact HF.out)⟩
        obtain⟨_,_,_,_,_,fd,hfd,_⟩:=hcq wq (Jy _ _)
        have hcq2:∀W',Below wq.heap.size wq W'->W'.cell? ⟨mb,1,none⟩=some (.int .i64 mv.d.k)/\W'.cell? ⟨mb,2,none⟩=some (.int .u64 mv.d.b)/\W'.cell? ⟨mb,3,none⟩=some (.string mv.d.t)/\W'.cell? ⟨xb,2,none⟩=some (.slice (some fa) nf x.f)/\W'.cell? (fa.add ii)=some (.slice (some fd) m1 V.a)/\W'.cell? (fd.add (j * 3))=some (.string f.s)/\W'.cell? ⟨(fd.add (j * 3)).block,(fd.add (j * 3)).off+(0+1),none⟩=some (.int .i64 f.k)/\W'.cell? ⟨(fd.add (j * 3)).block,(fd.add (j * 3)).off+(1+1),none⟩=some (.int .i64 f.l):=fun W' hb=>by
         obtain⟨r1,r2,r3,r4,r5,fd',e,r6,r7,r8⟩:=hcq W' hb
         rw[hfd] at e r5
         cases e
         exact⟨r1,r2,r3,r4,r5,r6,r7,r8⟩
        have HCQ:=J0 hcq2
        have j2:(j:Int)<(m1:Int):=by have:=HNM1.out;omega
        clear hcq hcq2 hfd hpx hqx hpx2 hacc5 lx HMA hacc4 q1 q2 q3
        go_upto_region 16 with fail
        refine RW.start (fun w'=>Below wq.heap.size wq w') (by kernel_rfl) (by kernel_rfl) (Jy _ _).drew ?_
        repeat (first
         |(refine' RW.val (by rfl) ?_ ?_;rotate_left;(focus (intro w' hS;have HBz:=hS;obtain⟨r1,r2,r3,r4,r5,r6,r7,r8⟩:=HCQ.out _ HBz;clear hS;go_simp;rfl));simp only[Act.put,J1,J3,J2])
         |(refine RW.off (by rfl) ?_;simp only[Act.put,J1,J3,J2])
         |(refine' RW.call (by rfl) ?_ ?_ ?_
           rotate_left 3
           (focus (intro w' hS;have HBz:=hS;obtain⟨r1,r2,r3,r4,r5,r6,r7,r8⟩:=HCQ.out _ HBz;clear hS;go_simp;exact⟨rfl,rfl⟩))
           (focus
             intro w' hS
             have HBz:=hS;obtain⟨r1,r2,r3,r4,r5,r6,r7,r8⟩:=HCQ.out _ HBz;clear hS
             first
              |((with_reducible refine(cq mv.d.k mv.d.b mv.d.t f.s f.k f.l HW0.out.1 HW0.out.2 px qx HPX.out HQX.out _).mono ?_);rintro e w1 ⟨rfl,hb⟩;exact⟨rfl,(aB HBz hb)⟩))
           simp only[Act.put,J1,J3,J2]))
        refine RW.done (fun w' hS=>?_)
        have HBz:=hS;obtain⟨r1,r2,r3,r4,r5,r6,r7,r8⟩:=HCQ.out _ HBz;clear hS
        have HBf:=HBq.trans (HBz.mono HBq.size)
        clear hfn HCQ PM HBq
        go_wp2
        rw[HA5'.out]
        go_roundw
        case rel=>exact⟨j+1,acc5,by omega,by go_num,rfl,HA5,HBf⟩
        case measure=>simp[intOf];omega
       ·have e1:(mv.f == -1)=false:=by simpa using hfn
        obtain⟨hf0,_,fo,hfo,_⟩:=gD hfn HOK1.out
        have hf16:mv.f<256:=by
         have h1:=(J6.1 hfo).1
         have h2:=(bN HTO.out.r).1
         omega
        obtain⟨pb,hpb⟩:∃q,aR [UInt8.ofNat mv.f.toNat]=q:=⟨_,rfl⟩
        have hle:dG mv.f 1=[UInt8.ofNat mv.f.toNat]:=by
         obtain⟨b,hb⟩:∃b:Nat,mv.f=(b:Int):=⟨mv.f.toNat,by omega⟩
         rw[hb]
         exact nh (by omega)
        have lb:pb.size=1:=by rw[<-hpb,aj];rfl
        obtain⟨acc5,hacc5⟩:∃q,acc4++pb=q:=⟨_,rfl⟩
        have HA5:Hid (aR (P2++iR t (j+1))=acc5):=J0 (by
         rw[gx,HMA.out,xz,Xy hfn,nR HOK1.out hfn,List.append_nil,<-hacc5,<-hpb,<-hacc4.out,hle]
         simp only[bT,X8])
        have y1:¬9223372036854775807<acc4.size+pb.size:=by omega
        have j2:(j:Int)<(m1:Int):=by have:=HNM1.out;omega
        have hwf:IntKind.u64.wrap mv.f=mv.f:=IntWalk.u64_in _ (by omega)
        have HPB:=J0 hpb;have HA5':=J0 hacc5
        clear hpb hle hacc5 hfo HMA hacc4 lb q1 q2 q3
        go_wp2_with (go_at_call 83;refine(ez mv.f hf0 hf16 pb HPB.out _).mono ?_;rintro e wz ⟨rfl,hbz⟩;have HBf:=HBq.trans (hbz.mono HBq.size))
        rw[HA5'.out]
        clear hfn
        go_roundw
        case rel=>exact⟨j+1,acc5,by omega,by go_num,rfl,HA5,HBf⟩
        case measure=>simp[intOf];omega
      ·obtain rfl:j=nm:=by omega
       have hfin:aR (P1++eG x.y (i+1+1))=acc4:=by
        rw[ic x.y (i+1),gk,HT.out,<-hacc4.out,<-HP2.out]
        show aR (P1++(eG x.y (i+1)++oc (i+1) t))=_
        rw[oc,Xy (by omega),HNM.out]
        simp only[X8]
       have HFI:=J0 hfin
       clear hfin
       go_wp2
       go_roundw
       case rel=>exact⟨i+1,acc4,by omega,by have h1:=HII.out;rw[h1],rfl,HFI,HBy⟩
       case measure=>have h1:=HII.out;simp[intOf];omega
    ·obtain rfl:i=nt:=by omega
     have hfin:aR (dG (n:Int) 1++fX L (k+1))=acc2:=by
      have h1:=HIS.out.len.2
      have h2:=HNT.out
      have h3:=HIS.out.len.1
      have h4:=HNF.out
      have h5:=HFT.out
      rw[lX HLK.out,<-hacc2.out,<-HPP.out,AU,show x.y.ts.length=i+1 by omega]
      simp only[X8]
     have HFI:=J0 hfin
     have HBk:=HB5.trans (HBx.mono HB5.size)
     clear hfin
     go_wp2
     go_roundw
     case rel=>exact⟨k+1,acc2,by omega,by go_num,rfl,HFI,HBk⟩
     case measure=>simp[intOf];omega
  ·obtain rfl:k=n:=by omega
   have hfin:acc=p:=by
    rw[<-hacc.out,<-HP.out,HL.out,eL,HLN.out]
   subst hfin
   go_wp2
   go_ret
   exact⟨rfl,HB⟩
section
variable {P:Program} {ops:Array Oper} {Q:Exit->Act->EQ->Prop} {md:Region.Mode}
theorem mS {S S':EQ->Prop} (hs:∀w,S' w->S w):∀(fuel:Nat) (listed:Array Bool) (a:Act) (w:EQ),wpAnyH P md ops Q S' fuel listed a w->wpAnyH P md ops Q S fuel listed a w
 |0,_,_,_,h=>h
 |fuel+1,_,_,_,h=>⟨h.1,fun i hi=>wpOp_mono (fun a' w' h'=>⟨hs _ h'.1,mS hs fuel _ a' w' h'.2⟩) (h.2 i hi)⟩
end
theorem Wq.perm {L D:List Ty} (h:Wq D) (hp:L.Perm D):Wq L:=by
 refine⟨fun y hy=>h.ok y (hp.subset hy),(hp.map _).nodup_iff.2 h.nd,?_⟩
 have:=hp.length_eq;have:=h.len;omega
theorem mR {L D:List Ty} (h:Wq D) (hp:L.Perm D) (nm:EP) (v:Int):ct L nm v=ct D nm v:=by
 rw[ct,ct,kA hp h.nd]
theorem Bu {D:List Ty} (h:Wq D) (nm:EP) (v:Int):(fldL D nm v).length<=16:=by
 cases hv:ct D nm v with
 |none=>rw[fldL,hv];simp
 |some x=>
  rw[fldL,hv]
  cases hf:ak D nm with
  |none=>rw[ct,hf] at hv;cases hv
  |some t=>
   rw[ct,hf] at hv
   obtain⟨k,_,hk,_⟩:=kL (t:=t) (v:=v) (x:=x) hv
   exact(bN (((h.ok t (bQ hf).1).ok x (J7 hk)).r)).2.1
theorem EJ {L D:List Ty} (hp:L.Perm D):(L.map (·.s)).Perm (D.map (·.s)):=hp.map _
theorem vC {D:List Ty} (h:Wq D) {y:Ty} {nm:EP} (hy:y∈D) (hs:y.s=nm):ak D nm=some y:=by
 obtain⟨t,ht⟩:=nU (D:=D) (nm:=nm) (Vy.2 ⟨y,hy,hs⟩)
 obtain⟨h1,h2⟩:=bQ ht
 rw[ht]
 obtain⟨i,hi⟩:=Qv.1 h1
 obtain⟨j,hj⟩:=Qv.1 hy
 have e1:(D.map (·.s))[i]?=some nm:=by rw[Kv,hi,<-h2];rfl
 have e2:(D.map (·.s))[j]?=some nm:=by rw[Kv,hj,<-hs];rfl
 obtain⟨hil,e1⟩:=J6.1 e1
 obtain⟨hjl,e2⟩:=J6.1 e2
 have:i=j:=(List.getElem?_inj hil h.nd).1 (by rw[J4 hil,J4 hjl,e1,e2])
 subst this
 rw[hi] at hj
 exact hj
theorem uN {W:EQ} {cp mp:Nat} {E:List En} {es:List MapEntry} {clock:Nat} (h:aa 89 80 W cp mp E es clock) (hok:Wq (E.map (·.y))) {Q:Nat->Prop} {A:EL} {c:Nat} {X:List bk} (hr:bZ Q W A c X) (n:Nat) (hn:X.length=n) (hL:(X.map (·.y)).Perm (E.map (·.y))) (hrk:bU (X.map (·.y))):
 Calls Tryz.prog 21 #[.pointer (some ⟨cp,0,none⟩),.slice A n c] W fun e w'=>e=.returned (.bool true)/\Below W.heap.size W w':=by
 have hol:=hok.perm hL
 have h16:n<=16:=by have:=hol.len;rw[Kz,hn] at this;exact this
 have hEl:E.length<=1000:=by have:=hok.len;rw[Kz] at this;omega
 obtain⟨z,hz⟩:∃z,(eL (X.map (·.y))).length=z:=⟨_,rfl⟩
 obtain⟨p,hp⟩:∃p,aR (eL (X.map (·.y)))=p:=⟨_,rfl⟩
 have hrow:=hr.row
 have hLn:(X.map (·.y)).length=n:=by rw[Kz];exact hn
 have HH:=J0 h;have HOK:=J0 hok;have HR:=J0 hr;have HN:=J0 hn;have HL:=J0 hL;have HRK:=J0 hrk;have HZ:=J0 hz;have HP:=J0 hp;have HOL:=J0 hol;have HLN:=J0 hLn
 clear h hok hr hn hL hrk hz hp hol hLn
 go_enter Tryz.func21,Tryz.ntmps21
 go_upto_region 2 with (go_at_call 14;refine(wD HH.out hEl _ HL.out HRK.out).mono ?_;rintro e w1 ⟨B,cB,rfl,hB,HB0⟩)
 rw[HN.out]
 replace hB:=hB.rd
 have hBw:∀wx,Below w1.heap.size w1 wx->Rd wx B (ge ((X.map (·.y)).map (·.s))):=fun wx hb=>hB.below hb
 refine wp_region_noPanic ?_
 refine wp_region_held_drew (S:=fun wx=>Below w1.heap.size w1 wx) (by kernel_rfl) (Jy _ _).drew (fun hHeld=>?_)
 try simp only[Act.put,J1,J3,J2,Ky,K9,Jz]
 refine Y6 (i:=0) (oi:=_) (v:=?_) rfl (by kernel_rfl) (by kernel_rfl) (by kernel_rfl) (fun _ _ _ h=>h) (Or.inl ⟨by rfl,?_⟩) hHeld ?_
 rotate_left
 ·(intro w hSw;(try dsimp only at hSw);go_simp;first|done|with_reducible rfl)
 try simp only[Act.put,J1,J3,J2,Ky,K9,Jz]
 refine Y6 (i:=1) (oi:=_) (v:=?_) rfl (by kernel_rfl) (by kernel_rfl) (by kernel_rfl) (fun _ _ _ h=>h) (Or.inl ⟨by rfl,?_⟩) hHeld ?_
 rotate_left
 ·(intro w hSw;(try dsimp only at hSw);go_simp;first|done|with_reducible rfl)
 try simp only[Act.put,J1,J3,J2,Ky,K9,Jz]
 refine Y6 (i:=2) (oi:=_) (v:=?_) rfl (by kernel_rfl) (by kernel_rfl) (by kernel_rfl) (fun _ _ _ h=>h) (Or.inl ⟨by rfl,?_⟩) hHeld ?_
 rotate_left
 ·(intro w hSw;(try dsimp only at hSw);go_simp;first|done|with_reducible rfl)
 try simp only[Act.put,J1,J3,J2,Ky,K9,Jz]
 refine Y6 (i:=3) (oi:=_) (v:=?_) rfl (by kernel_rfl) (by kernel_rfl) (by kernel_rfl) (fun _ _ _ h=>h) (Or.inl ⟨by rfl,?_⟩) hHeld ?_
 rotate_left
 ·(intro w hSw;(try dsimp only at hSw);go_simp;first|done|with_reducible rfl)
 try simp only[Act.put,J1,J3,J2,Ky,K9,Jz]
 refine Y6 (i:=4) (oi:=_) (v:=?_) rfl (by kernel_rfl) (by kernel_rfl) (by kernel_rfl) (fun _ _ _ h=>h) (Or.inl ⟨by rfl,?_⟩) hHeld ?_
 rotate_left
 ·(intro w hSw;(try dsimp only at hSw);go_simp;first|done|with_reducible rfl)
 try simp only[Act.put,J1,J3,J2,Ky,K9,Jz]
 refine Y6 (i:=5) (oi:=_) (v:=?_) rfl (by kernel_rfl) (by kernel_rfl) (by kernel_rfl) (fun _ _ _ h=>h) (Or.inl ⟨by rfl,?_⟩) hHeld ?_
 rotate_left
 ·(intro w hSw;(try dsimp only at hSw);go_simp;first|done|with_reducible rfl)
 try simp only[Act.put,J1,J3,J2,Ky,K9,Jz]
 refine Y6 (i:=6) (oi:=_) (v:=?_) rfl (by kernel_rfl) (by kernel_rfl) (by kernel_rfl) (fun _ _ _ h=>h) (Or.inl ⟨by rfl,?_⟩) hHeld ?_
 rotate_left
 ·(intro w hSw;(try dsimp only at hSw);go_simp;first|done|with_reducible rfl)
 try simp only[Act.put,J1,J3,J2,Ky,K9,Jz]
 refine Y6 (i:=9) (oi:=_) (v:=?_) rfl (by kernel_rfl) (by kernel_rfl) (by kernel_rfl) (fun _ _ _ h=>h) (Or.inl ⟨by rfl,?_⟩) hHeld ?_
 rotate_left
 ·(intro w hSw;(try dsimp only at hSw);go_simp;first|done|with_reducible rfl)
 try simp only[Act.put,J1,J3,J2,Ky,K9,Jz]
 refine wpAnyH_ready (rs:=[7]) (by kernel_rfl) (by simp) ?_
 refine AllReadyH.cons (o:=_) rfl (fun K hK=>?_) AllReadyH.nil
 go_simp
 (go_at_call 27;refine(kz ((HH.out.below HB0).below hHeld) HOK.out _ HL.out HRK.out z HZ.out).mono ?_;rintro e wE ⟨BE,cE,rfl,hE,hbE⟩;have HB:=hHeld.trans (hbE.mono hHeld.size);clear hHeld hbE)
 try (go_wp2_with fail)
 refine hK.out _ _ ?_ (fun hHeld=>?_)
 ·(try dsimp only);exact HB
 clear hK K
 try simp only[Act.put,J1,J3,J2,Ky,K9,Jz]
 refine mS (S':=fun wx=>Below w1.heap.size w1 wx/\Rd wx BE (aH (eL (X.map (·.y))))) (fun _ h=>h.1) _ _ _ _ ?_
 replace hHeld:Below w1.heap.size w1 wE/\Rd wE BE (aH (eL (X.map (·.y)))):=⟨HB,hE⟩
 clear HB hE
 refine Y6 (i:=8) (oi:=_) (v:=?_) rfl (by kernel_rfl) (by kernel_rfl) (by kernel_rfl) (fun _ _ _ h=>h) (Or.inl ⟨by rfl,?_⟩) hHeld ?_
 rotate_left
 ·(intro w hSw;(try dsimp only at hSw);have hcv:=jQ hSw.2 z cE HZ.out;rw[HP.out] at hcv;go_simp;first|done|with_reducible rfl)
 try simp only[Act.put,J1,J3,J2,Ky,K9,Jz]
 refine wpAnyH_ready (rs:=[10]) (by kernel_rfl) (by simp) ?_
 refine AllReadyH.cons (o:=_) rfl (fun K hK=>?_) AllReadyH.nil
 go_simp
 (go_at_call 46;refine(kG ((HR.out.below HB0).below hHeld.1) n HN.out HOL.out p HP.out).mono ?_;rintro e wF ⟨rfl,hbF⟩;have HB:=hHeld.1.trans (hbF.mono hHeld.1.size);have hE:=hHeld.2.below hbF;clear hHeld hbF)
 try (go_wp2_with fail)
 refine hK.out _ _ ?_ (fun hHeld=>?_)
 ·exact⟨HB,hE⟩
 clear hK K
 try simp only[Act.put,J1,J3,J2,Ky,K9,Jz]
 refine Y6 (i:=11) (oi:=_) (v:=?_) rfl (by kernel_rfl) (by kernel_rfl) (by kernel_rfl) (fun _ _ _ h=>h) (Or.inl ⟨by rfl,?_⟩) hHeld ?_
 rotate_left
 ·(intro w hSw;(try dsimp only at hSw);go_simp;first|done|with_reducible rfl)
 try simp only[Act.put,J1,J3,J2,Ky,K9,Jz]
 refine Y6 (i:=12) (oi:=_) (v:=?_) rfl (by kernel_rfl) (by kernel_rfl) (by kernel_rfl) (fun _ _ _ h=>h) (Or.inl ⟨by rfl,?_⟩) hHeld ?_
 rotate_left
 ·(intro w hSw;(try dsimp only at hSw);go_simp;first|done|with_reducible rfl)
 try simp only[Act.put,J1,J3,J2,Ky,K9,Jz]
 refine wpAnyH_done (by kernel_rfl) ?_ _
 refine NoPanic.normal ?_
 have HB:=hHeld.1
 clear hHeld
 have HB':=HB
 clear HB
 go_upto_region 5 with fail
 go_loopw [6,7,33] (fun _ _ i wr=>∃k:Nat,k<=n/\i=.int .i64 k/\Below w1.heap.size w1 wr) (fun _ _ i _=>n - (intOf i).toNat)
 case atStart=>exact⟨0,by omega,rfl,HB'⟩
 case round=>
  obtain⟨k,hk,rfl,HB⟩:=hrel
  clear HB'
  by_cases hlt:k<n
  ·obtain⟨x,hx⟩:∃x,X[k]?=some x:=⟨_,J4 (by rw[HN.out];exact hlt)⟩
   have hxm:=J7 hx
   have hyo:=HOL.out.oks x hxm
   have hI:=HR.out.ty x hxm
   obtain⟨hfl,htl⟩:=hI.len
   obtain⟨nf,hnf⟩:∃m,x.fv.length=m:=⟨_,rfl⟩
   obtain⟨nt,hnt⟩:∃m,x.tv.length=m:=⟨_,rfl⟩
   obtain⟨top,htop⟩:∃m,x.y.top=m:=⟨_,rfl⟩
   have hlen:0<x.y.ts.length:=by cases hx:x.y.ts with|nil=>exact absurd hx hyo.ne|cons a r=>simp
   have hsum:x.y.old+nf=top+1:=by have h2:x.y.top=x.y.old+x.y.ts.length - 1:=rfl;omega
   have hhi:top<=64:=by have:=hyo.hi;omega
   have hlo:=hyo.lo
   obtain⟨nm,hnm⟩:∃q,x.y.s=q:=⟨_,rfl⟩
   have hmx:nm.size<=maxLen:=by rw[<-hnm];exact tW hyo.nm
   obtain⟨t,ht⟩:∃t,ak (E.map (·.y)) nm=some t:=nU ((EJ HL.out).subset (Vy.2 ⟨x.y,Vy.2 ⟨x,hxm,rfl⟩,hnm⟩))
   have hfx:ak (X.map (·.y)) nm=some x.y:=vC HOL.out (Vy.2 ⟨x,hxm,rfl⟩) hnm
   rw[kA HL.out HOK.out.nd,ht] at hfx
   obtain rfl:t=x.y:=Jj hfx
   obtain⟨old,hold⟩:∃q,x.y.old=q:=⟨_,rfl⟩
   have v1:vv (E.map (·.y)) nm=old:=by rw[vv,ht];exact hold
   have v2:vw (E.map (·.y)) nm=top:=by rw[vw,ht];exact htop
   have v3:vu (E.map (·.y)) nm=0:=by rw[vu,ht]
   obtain⟨bd,rfl,n0⟩:=(hBw _ HB).at (j:=k) (u:=.string nm) (by simp[ge,hx,hnm])
   obtain⟨ad,rfl,c0,c1,c2,c3⟩:=((hrow.below HB0).below HB).ty hx
   rw[hnf] at c2;rw[hnt] at c3;rw[hold] at c1 hsum hlo;rw[hnm] at c0
   have h0:(0:Int)<=(k:Int):=by omega
   have h1:(k:Int)<(n:Int):=by omega
   obtain⟨o1,ho1⟩:∃o1,o1+1=old:=⟨old - 1,by omega⟩
   have hw0:IntKind.i64.wrap ((old:Int) - 1)=(o1:Int):=(Xj _ (by omega)).trans (by omega)
   have hw2:IntKind.i64.wrap ((top:Int)+1)=((top+1:Nat):Int):=(Xj _ (by omega)).trans (by omega)
   have hw3:IntKind.i64.wrap ((k:Int)+1)=((k+1:Nat):Int):=(Xj _ (by omega)).trans (by omega)
   have hcl:∀W',Below w1.heap.size w1 W'->W'.cell? (ad.add (k * 4))=some (.string nm)/\W'.cell? ⟨(ad.add (k * 4)).block,(ad.add (k * 4)).off+(0+1),none⟩=some (.int .i64 (old:Nat))/\W'.cell? ⟨(ad.add (k * 4)).block,(ad.add (k * 4)).off+(1+1),none⟩=some (.slice x.F nf x.f)/\W'.cell? ⟨(ad.add (k * 4)).block,(ad.add (k * 4)).off+(2+1),none⟩=some (.slice x.T nt x.t):=fun W' hb=>by
    obtain⟨ad',e,q0,q1,q2,q3⟩:=((hrow.below HB0).below hb).ty hx
    cases e
    rw[hnf] at q2;rw[hnt] at q3;rw[hold] at q1;rw[hnm] at q0
    exact⟨q0,q1,q2,q3⟩
   have HCL:=J0 hcl
   have HV1:=J0 v1;have HV2:=J0 v2;have HV3:=J0 v3;have HS:=J0 hsum;have HO1:=J0 ho1;have HMX:=J0 hmx
   have ho64:old<=65:=by omega
   clear hx hI hyo hfl htl hnf hnt htop hlen hnm hold v1 v2 v3 hfx ht c0 c1 c2 c3 hcl hxm hsum hlo ho1
   go_upto_region 8 with (go_at_call 15;refine(nA ((HH.out.below HB0).below HB) HMX.out HOK.out _ rfl old top 0 HV1.out HV2.out HV3.out).mono ?_;rintro e w5 ⟨rfl,hb5⟩;replace HB:=HB.trans (hb5.mono HB.size);clear hb5)
   obtain⟨c0,c1,c2,c3⟩:=HCL.out _ HB
   go_upto_region 10 with (go_at_call 24;refine(dO nm old nf x.F x.f x.T nt x.t top HS.out (by omega) _).mono ?_;rintro e w6 ⟨rfl,hb6⟩;replace HB:=HB.trans (hb6.mono HB.size);clear hb6)
   go_upto_region 11 with fail
   have HB2:=HB
   clear HB c0 c1 c2 c3 n0
   go_loopw [11] (fun i wy=>∃v:Nat,v<=top+2/\i=.int .i64 v/\Below w1.heap.size w1 wy) (fun i _=>top+2 - (intOf i).toNat)
   case atStart=>exact⟨o1,by have:=HO1.out;have:=HS.out;omega,rfl,HB2⟩
   case round=>
    rename EQ=>wx
    obtain⟨v,hv,rfl,HB⟩:=hrel
    clear HB2
    by_cases hvt:v<=top+1
    ·have hvv:decide ((v:Int)<=((top+1:Nat):Int))=true:=by simp;omega
     have hvw:IntKind.i64.wrap ((v:Int)+1)=((v+1:Nat):Int):=(Xj _ (by omega)).trans (by omega)
     obtain⟨q,hq⟩:∃q,pG (E.map (·.y)) nm (v:Int)=q:=⟨_,rfl⟩
     obtain⟨l,hl⟩:∃l,fldL (E.map (·.y)) nm (v:Int)=l:=⟨_,rfl⟩
     obtain⟨m,hm⟩:∃m,l.length=m:=⟨_,rfl⟩
     have hm16:m<=16:=by rw[<-hm,<-hl];exact Bu HOK.out _ _
     have hq':pG (X.map (·.y)) nm (v:Int)=q:=by rw[<-hq,pG,pG,mR HOK.out HL.out]
     have hl':fldL (X.map (·.y)) nm (v:Int)=l:=by rw[<-hl,fldL,fldL,mR HOK.out HL.out]
     have HQ:=J0 hq;have HLL:=J0 hl;have HQ':=J0 hq';have HL':=J0 hl';have HM:=J0 hm
     clear hq hl hq' hl' hm
     go_upto_region 15 with (first
      |(go_at_call 16;refine(yq ((HH.out.below HB0).below HB) HMX.out HOK.out _ rfl (v:Int) q HQ.out l HLL.out m HM.out).mono ?_;rintro e w6 ⟨B6,b6,rfl,_,r6,hb6⟩;replace HB:=HB.trans (hb6.mono HB.size);replace r6:=r6.rd;clear hb6)
      |(go_at_call 40;refine(yJ ((HR.out.below HB0).below HB) n HN.out HOL.out nm (v:Int) q HQ'.out l HL'.out m HM.out).mono ?_;rintro e w7 ⟨B7,b7,rfl,r7,hb7⟩;replace HB:=HB.trans (hb7.mono HB.size);replace r6:=r6.below hb7;clear hb7))
     go_wp2_with (go_at_call 22;refine(qW B6 B7 b6 b7 m m l l HM.out HM.out true (by simp[bh]) _ r6 r7 (by omega) (by omega)).mono ?_;rintro e w8 ⟨rfl,hb8⟩;replace HB:=HB.trans (hb8.mono HB.size);clear hb8)
     go_roundw
     case rel=>exact⟨v+1,by omega,by go_num,HB⟩
     case measure=>simp[intOf];omega
    ·obtain rfl:v=top+2:=by omega
     have hvv:decide (((top+2:Nat):Int)<=((top+1:Nat):Int))=false:=by rw[decide_eq_false_iff_not];omega
     go_wp2
     go_roundw
     case rel=>exact⟨k+1,by omega,by go_num,HB⟩
     case measure=>simp[intOf];omega
  ·obtain rfl:k=n:=by omega
   go_wp2
   go_ret
   exact⟨rfl,HB0.trans (HB.mono HB0.size)⟩
end
section
open Go.RowKit Go.Lib Go.Maps
open Go.ChangeMaps (setBlock)
structure xH (W0 W:EQ) (op om:Nat) (E:List En) (es:List MapEntry) (k:Nat):Prop where
 cat:aa 89 80 W op om E es k
 low:∀d∈E,∀g,d.has g->W0.heap.size<=g
 lo:W0.heap.size<=op
 lm:W0.heap.size<=om
 tabs:∀d∈E,∀x∈d.xs,x.Is (fun g=>g<W0.heap.size) W0
theorem xH.but {W0 W W':EQ} {op om:Nat} {E:List En} {es:List MapEntry} {k r:Nat} (h:xH W0 W op om E es k) (hr:r≠op/\r≠om/\∀d∈E,¬d.has r) (hb:Below W0.heap.size W0 W') (hk:∀g,g<W.heap.size->g≠r->W'.heap[g]?=W.heap[g]?):xH W0 W' op om E es k:=
 ⟨⟨(hk op h.cat.box.lt hr.1.symm).trans h.cat.box,(hk om h.cat.mpLt hr.2.1.symm).trans h.cat.map,h.cat.b1,h.cat.b2,h.cat.prs,fun d hd=>(h.cat.ents d hd).keep (fun g hg=>hk g (En.lt (h.cat.ents d hd) hg) (by rintro rfl;exact hr.2.2 d hd hg)),h.cat.names,h.cat.small,h.cat.apart,h.cat.free,
   fun d hd x hx=>((h.tabs d hd x hx).keep (fun g hg=>hb.block g hg)).mono (fun g hg=>⟨fun d' hd' hh=>by have:=h.low d' hd' g hh;omega,by have:=h.lo;omega,by have:=h.lm;omega⟩)⟩,h.low,h.lo,h.lm,h.tabs⟩
theorem xH.below {W0 W W':EQ} {op om:Nat} {E:List En} {es:List MapEntry} {k:Nat} (h:xH W0 W op om E es k) (hb:Below W.heap.size W W'):xH W0 W' op om E es k:=⟨h.cat.below hb,h.low,h.lo,h.lm,h.tabs⟩
theorem uK (w:EQ) (r:Nat) (o:Obj) (hr:r<w.heap.size):(setBlock w r o).heap[r]?=some o:=by
 simp[setBlock,hr]
theorem mP (w:EQ) (r:Nat) (o:Obj) {g:Nat} (h:g≠r):(setBlock w r o).heap[g]?=w.heap[g]?:=by
 show(w.heap.setIfInBounds r o)[g]?=_
 rw[Array.getElem?_setIfInBounds_ne (fun e=>h e.symm)]
theorem gi (w:EQ) (r:Nat) (o:Obj):(setBlock w r o).heap.size=w.heap.size:=by simp[setBlock]
end
section
open Go.RowKit Go.Lib Go.Maps
def dI (k:Nat) (l:EN):Option (EN×EN):=if k<=l.length then some (l.take k,l.drop k) else none
def cJ (k:Nat) (l:EN):Option (Nat×EN):=if k<=l.length then some (fJ (l.take k),l.drop k) else none
def dU {α:Type} (am:Bool) (o:Option (α×EN)) (x:α) (l':EN) (am':Bool):Prop:=match o with
 |some y=>x=y.1/\l'=y.2/\am'=am
 |none=>am'=true
structure im (W0 w:EQ) (p:Nat) (l:EN) (am:Bool):Prop where
 ex:∃A c,aD w p [.slice A l.length c,.bool am] 117/\l.length<=c/\c<=maxLen/\Rd W0 A (aH l)
 b:Below W0.heap.size W0 w
 p:W0.heap.size<=p
theorem im.below {W0 w w':EQ} {p:Nat} {l:EN} {am:Bool} (h:im W0 w p l am) (hb:Below w.heap.size w w'):im W0 w' p l am:=by
 obtain⟨A,c,h1,h2,h3,h4⟩:=h.ex
 exact⟨⟨A,c,h1.below hb,h2,h3,h4⟩,h.b.trans (hb.mono h.b.size),h.p⟩
theorem im.only {W0 w w':EQ} {p u:Nat} {l:EN} {am:Bool} (h:im W0 w p l am) (ho:aO (some u) none w w') (hu:u≠p) (hu0:W0.heap.size<=u):im W0 w' p l am:=by
 obtain⟨A,c,h1,h2,h3,h4⟩:=h.ex
 exact⟨⟨A,c,h1.only ho (by simp;omega) (by simp),h2,h3,h4⟩,h.b.trans (ho.low h.b.size (fun g hg=>by cases hg;exact hu0) (fun g hg=>by cases hg)),h.p⟩
theorem Rd.none_nil {w:EQ} {l:EN} (h:Rd w none (aH l)):l=[]:=by
 cases l with
 |nil=>rfl
 |cons x r=>obtain⟨ad,e,_⟩:=h (by simp[aH]);cases e
def sS (W0:EQ) (p:Nat) (am:Bool) (k:Nat) (l:EN) (w:EQ) (e:Ending) (w':EQ):Prop:=∃B c' bs l' am',e=.returned (.slice B k c')/\k<=c'/\c'<=maxLen/\bs.length=k/\Rd w' B (aH bs)/\l'.length<=l.length/\im W0 w' p l' am'/\dU am (dI k l) bs l' am'/\aO (some p) none w w'
theorem Cz {W0 w:EQ} {p:Nat} {l:EN} {am:Bool} (h:im W0 w p l am) (k:Nat) (hk:k<=l.length) (hl:l.length<=100000000):
 Calls Tryz.prog 49 #[.pointer (some ⟨p,0,none⟩),.int .i64 k] w fun e w'=>sS W0 p am k l w e w':=by
 obtain⟨A,c,h1,h2,h3,h4⟩:=h.ex
 have hb:=h.b
 have hp:=h.p
 obtain⟨n,hn⟩:∃n,l.length=n:=⟨_,rfl⟩
 rw[hn] at h1 h2 hk hl
 have k0:(0:Int)<=(k:Int):=by omega
 have k1:(k:Int)<=(c:Int):=by omega
 have k2:(k:Int)<=(n:Int):=by omega
 have k3:decide ((n:Int)<(k:Int))=false:=by simp;omega
 have k4:decide (n<k)=false:=by simp;omega
 have HN:=J0 hn
 have fin:∀(A':EL) (c':Nat),n - k<=c'->c'<=maxLen->Rd W0 A' (aH (l.drop k))->sS W0 p am k l w (.returned (.slice A k c)) (w.setCell ⟨p,0,none⟩ (.slice A' (n - k) c')):=fun A' c' g1 g2 g3=>by
  have hbx:=aI h1 0 (.slice A' (n - k) c')
  have hO:aO (some p) none w (w.setCell ⟨p,0,none⟩ (.slice A' (n - k) c')):=(aO.of (Jy _ _)).setU 0 _
  have hb':Below W0.heap.size W0 (w.setCell ⟨p,0,none⟩ (.slice A' (n - k) c')):=hb.setCell hp _
  have hlk:(l.drop k).length=n - k:=by rw[List.length_drop,HN.out]
  have hRk:Rd W0 A (aH (l.take k)):=by
   cases A with
   |none=>rw[h4.none_nil];simp[aH];exact Rd.nil _ _
   |some ad=>have:=h4.slice 0 k;rw[Addr.add_zero'] at this;simpa using this
  refine⟨A,c,l.take k,l.drop k,am,rfl,by omega,h3,by rw[Qx,HN.out];omega,hRk.below hb',by rw[hlk];omega,⟨⟨A',c',?_,by rw[hlk];exact g1,g2,g3⟩,hb',hp⟩,?_,hO⟩
  ·rw[hlk];exact hbx
  ·rw[dI,Xz (by rw[HN.out];exact hk)];exact⟨rfl,rfl,rfl⟩
 obtain⟨q0,q1,q2,q3⟩:=h1.f2
 have FIN:=J0 fin
 clear fin
 cases A with
 |none=>
  obtain rfl:=h4.none_nil
  have hn0:n=0:=HN.out.symm
  obtain rfl:k=0:=by omega
  subst hn0
  have hf:=FIN.out none c (by omega) h3 (by simp[aH];exact Rd.nil _ _)
  clear h1 hn
  by_cases hc0:c=0
  ·subst hc0
   go_enter Tryz.func49,Tryz.ntmps49
   go_wp2
   go_ret
   exact hf
  ·go_enter Tryz.func49,Tryz.ntmps49
   go_wp2
   go_ret
   exact hf
 |some ad=>
  have hD:Rd W0 (some (ad.add k)) (aH (l.drop k)):=by
   have:=h4.slice k (n - k)
   rwa [Vx (by rw[List.length_drop,HN.out];omega)] at this
  by_cases hck:c=k
  ·subst hck
   have hf:=FIN.out (some ad) 0 (by omega) (X6 _) (by rw[List.drop_eq_nil_of_le (by rw[HN.out];omega)];exact Rd.nil _ _)
   have hz:n - c=0:=by omega
   rw[hz] at hf
   clear h1 hn hD
   by_cases hc0:c=0
   ·subst hc0
    go_enter Tryz.func49,Tryz.ntmps49
    go_wp2
    go_ret
    exact hf
   ·go_enter Tryz.func49,Tryz.ntmps49
    go_wp2
    go_ret
    exact hf
  ·have hf:=FIN.out (some (ad.add k)) (c - k) (by omega) (by omega) hD
   have hc0:¬c=0:=by omega
   clear h1 hn hD
   go_enter Tryz.func49,Tryz.ntmps49
   go_wp2
   go_ret
   exact hf
theorem AO {W0 w:EQ} {p:Nat} {l:EN} {am:Bool} (h:im W0 w p l am) (k:Nat) (hk:l.length<k) (hk2:k<=100000000) (hl:l.length<=100000000):
 Calls Tryz.prog 49 #[.pointer (some ⟨p,0,none⟩),.int .i64 k] w fun e w'=>sS W0 p am k l w e w':=by
 obtain⟨A,c,h1,h2,h3,h4⟩:=h.ex
 have hb:=h.b
 have hp:=h.p
 obtain⟨n,hn⟩:∃n,l.length=n:=⟨_,rfl⟩
 rw[hn] at h1 h2 hk hl
 have k3:decide ((n:Int)<(k:Int))=true:=by simp;omega
 have k4:decide (n<k)=true:=by simp;omega
 have hmk:=kC k (by omega)
 have HN:=J0 hn
 have fin:sS W0 p am k l w (.returned (.slice (some ⟨w.heap.size,0,none⟩) k k)) ((w.setCell ⟨p,1,none⟩ (.bool true)).alloc (.cells (aH (List.replicate k 0)).toArray 5)):=by
  have nb:=aA (w:=w.setCell ⟨p,1,none⟩ (.bool true)) (.cells (aH (List.replicate k 0)).toArray 5)
  have hbx:=(aI h1 1 (.bool true)).below nb
  have hO:aO (some p) none w ((w.setCell ⟨p,1,none⟩ (.bool true)).alloc (.cells (aH (List.replicate k 0)).toArray 5)):=((aO.of (Jy _ _)).setU 1 _).seq nb
  have hb':=(hb.setCell (p:=⟨p,1,none⟩) hp (.bool true)).alloc (by have:=hb.size;simpa using this) (.cells (aH (List.replicate k 0)).toArray 5)
  have hR:=gh (w.setCell ⟨p,1,none⟩ (.bool true)) (aH (List.replicate k 0)) 5
  refine⟨some ⟨w.heap.size,0,none⟩,k,List.replicate k 0,l,true,rfl,J9 _,by simp only[maxLen];omega,by simp,by simpa using hR,J9 _,⟨⟨A,c,?_,by rw[HN.out];exact h2,h3,h4⟩,hb',hp⟩,?_,hO⟩
  ·rw[HN.out];exact hbx
  ·rw[dI,Xy (by rw[HN.out];omega)];rfl
 obtain⟨q0,q1,q2,q3⟩:=h1.f2
 have FIN:=J0 fin
 clear fin h1 hn
 go_enter Tryz.func49,Tryz.ntmps49
 go_wp2
 go_ret
 exact FIN.out
theorem ra {W0 w:EQ} {p:Nat} {l:EN} {am:Bool} (h:im W0 w p l am) (k:Nat) (hk2:k<=100000000) (hl:l.length<=100000000):
 Calls Tryz.prog 49 #[.pointer (some ⟨p,0,none⟩),.int .i64 k] w fun e w'=>sS W0 p am k l w e w':=by
 rcases Nat.lt_or_ge l.length k with h1|h1
 ·exact AO h k h1 hk2 hl
 ·exact Cz h k h1 hl
theorem Eh (A:EL) (c k:Nat) (bs:EN) (hk:bs.length=k) (h1:k=1\/k=2) (w:EQ) (hA:Rd w A (aH bs)):
 Calls Tryz.prog 86 #[.slice A k c,.int .i64 0,.int .i64 k] w fun e w'=>e=.returned (.tuple #[.int .u64 (fJ bs:Nat),.bool true])/\Below w.heap.size w w':=by
 subst hk
 have:=mw A c bs 0 bs.length w hA (by omega) (by rcases h1 with h|h <;> rw[h] <;> rfl) (by omega) (by omega)
 simpa[eV] using this
def DM (W0:EQ) (p:Nat) (am:Bool) (k:Nat) (l:EN) (w:EQ) (e:Ending) (w':EQ):Prop:=∃(x:Nat) (l':EN) (am':Bool),e=.returned (.int .i64 (x:Nat))/\x<2 ^ (8 * k)/\l'.length<=l.length/\im W0 w' p l' am'/\dU am (cJ k l) x l' am'/\aO (some p) none w w'
theorem pt {W0 w:EQ} {p:Nat} {l:EN} {am:Bool} (h:im W0 w p l am) (k:Nat) (hk:k=1\/k=2) (hl:l.length<=100000000):
 Calls Tryz.prog 48 #[.pointer (some ⟨p,0,none⟩),.int .i64 k] w fun e w'=>DM W0 p am k l w e w':=by
 have HK:=J0 hk
 have hk2:k<=2:=by omega
 clear hk
 go_enter Tryz.func48,Tryz.ntmps48
 go_upto_region 2 with (first
  |(go_at_call 49;refine(ra h k (by omega) hl).mono ?_;rintro e W1 ⟨B,c',bs,l',am',rfl,hc',hcm,hbs,hR,hl',S',hst,hO⟩)
  |(go_at_call 86;refine(Eh B c' k bs hbs HK.out _ hR).mono ?_;rintro e W2 ⟨rfl,hb2⟩))
 have hlt:=jV bs
 rw[hbs] at hlt
 have hlt2:fJ bs<65536:=Nat.lt_of_lt_of_le hlt (by rcases HK.out with h|h <;> rw[h] <;> decide)
 obtain⟨x,hx⟩:∃x,fJ bs=x:=⟨_,rfl⟩
 rw[hx] at hlt hlt2 |-
 have hw1:IntKind.i64.wrap (x:Int)=(x:Int):=Xj _ (by omega)
 have fin:DM W0 p am k l w (.returned (.int .i64 (x:Nat))) W2:=by
  refine⟨x,l',am',rfl,hlt,hl',S'.below hb2,?_,hO.seq hb2⟩
  by_cases hkl:k<=l.length
  ·rw[dI,Xz hkl] at hst
   rw[cJ,Xz hkl]
   obtain⟨e1,e2,e3⟩:=hst
   exact⟨by rw[<-hx,e1],e2,e3⟩
  ·rw[dI,Xy hkl] at hst
   rw[cJ,Xy hkl]
   exact hst
 clear hst hO S' hR hlt
 go_wp2
 go_ret
 exact fin
theorem dU.next {α β:Type} {am am1 am2:Bool} {o:Option (α×EN)} {x:α} {l1 l2:EN} {f:α->EN->Option (β×EN)} {y:β} (h:dU am o x l1 am1) (h':dU am1 (f x l1) y l2 am2):dU am (match o with|none=>none|some v=>f v.1 v.2) y l2 am2:=by
 cases o with
 |none=>
  have h0:am1=true:=h
  subst h0
  show am2=true
  cases hf:f x l1 with
  |none=>rw[hf] at h';exact h'
  |some v=>rw[hf] at h';exact h'.2.2
 |some v=>
  obtain⟨rfl,rfl,rfl⟩:=h
  exact h'
theorem dU.mono {α:Type} {am am':Bool} {o:Option (α×EN)} {x:α} {l:EN} (h:dU am o x l am') (h0:am=true):am'=true:=by
 cases o with
 |none=>exact h
 |some v=>exact h.2.2.trans h0
theorem dU.bad {α:Type} {am:Bool} {o:Option (α×EN)} {x:α} {l:EN} (h:o=none):dU am o x l true:=by subst h;rfl
def jf (f:Fd) (r:EN):Option (Mv×EN):=match cJ 1 r with
 |none=>none
 |some y=>if y.1=255 then(match dI f.n y.2 with
  |none=>none
  |some z=>if fZ z.1 f.k f.l=true then some (⟨-1,gu z.1 f⟩,z.2) else none)
  else some (⟨(y.1:Int),Vl.z⟩,y.2)
def rC (fs:List Fd):Nat->EN->Option (List Mv×EN)
 |0,r=>some ([],r)
 |j+1,r=>match rC fs j r with
  |none=>none
  |some y=>match fs[j]? with
   |none=>none
   |some f=>match jf f y.2 with
    |none=>none
    |some z=>some (y.1++[z.1],z.2)
theorem te {am am1 am2:Bool} {fs:List Fd} {j:Nat} {r l1 l2:EN} {ms:List Mv} {m:Mv} {f:Fd} (h:dU am (rC fs j r) ms l1 am1) (hf:fs[j]?=some f) (h':dU am1 (jf f l1) m l2 am2):dU am (rC fs (j+1) r) (ms++[m]) l2 am2:=by
 rw[rC,hf]
 cases hp:rC fs j r with
 |none=>rw[hp] at h;exact h'.mono h
 |some v=>
  rw[hp] at h
  obtain⟨rfl,rfl,rfl⟩:=h
  simp only
  cases hm:jf f v.2 with
  |none=>rw[hm] at h';exact h'
  |some z=>rw[hm] at h';obtain⟨rfl,rfl,rfl⟩:=h';exact⟨rfl,rfl,rfl⟩
def jg (l:EN):Option (List Fd×EN):=match cJ 2 l with
 |none=>none
 |some y=>match dI y.1 y.2 with
  |none=>none
  |some z=>match da z.1 with
   |none=>none
   |some fs=>some (fs,z.2)
def jG (old fs:List Fd) (r:EN):Option (Tb×EN):=match rC fs fs.length r with
 |none=>none
 |some m=>if ar ⟨old,fs,m.1⟩=true then some (⟨old,fs,m.1⟩,m.2) else none
def jH (old:List Fd) (first:Bool) (l:EN):Option (Tb×EN):=match jg l with
 |none=>none
 |some y=>if first=true then some (bA y.1,y.2) else jG old y.1 y.2
theorem mg {am am1 am2 am3:Bool} {l l1 l2 bs:EN} {x:Nat} {fs:List Fd} (h1:dU am (cJ 2 l) x l1 am1) (h2:dU am1 (dI x l1) bs l2 am2) (h3:da bs=some fs->am3=am2) (h4:da bs=none->am3=true) (h5:am2=true->am3=true) (hf:∀fs',da bs=some fs'->fs=fs'):dU am (jg l) fs l2 am3:=by
 unfold jg
 cases e1:cJ 2 l with
 |none=>rw[e1] at h1;exact h5 (h2.mono h1)
 |some y=>
  rw[e1] at h1
  obtain⟨rfl,rfl,rfl⟩:=h1
  simp only
  cases e2:dI y.1 y.2 with
  |none=>rw[e2] at h2;exact h5 h2
  |some z=>
   rw[e2] at h2
   obtain⟨rfl,rfl,rfl⟩:=h2
   simp only
   cases e3:da z.1 with
   |none=>exact h4 e3
   |some fs'=>
    obtain rfl:=hf fs' e3
    exact⟨rfl,rfl,h3 e3⟩
theorem ny {am am1:Bool} {old fs:List Fd} {l l1:EN} (h:dU am (jg l) fs l1 am1):dU am (jH old true l) (bA fs) l1 am1:=by
 unfold jH
 cases e1:jg l with
 |none=>rw[e1] at h;exact h
 |some y=>rw[e1] at h;obtain⟨rfl,rfl,rfl⟩:=h;exact⟨rfl,rfl,rfl⟩
theorem Ak {am:Bool} {old:List Fd} {first:Bool} {t:Tb} {l l1:EN} (h:jg l=none):dU am (jH old first l) t l1 true:=dU.bad (by rw[jH,h])
theorem qB {am am1 am2:Bool} {old fs:List Fd} {ms:List Mv} {r l1:EN} (h:dU am (rC fs fs.length r) ms l1 am1) (h2:am2=(am1 || !ar ⟨old,fs,ms⟩)):dU am (jG old fs r) ⟨old,fs,ms⟩ l1 am2:=by
 subst h2
 unfold jG
 cases e1:rC fs fs.length r with
 |none=>rw[e1] at h;have:am1=true:=h;subst this;exact Bool.true_or _
 |some m=>
  rw[e1] at h
  obtain⟨rfl,rfl,rfl⟩:=h
  simp only
  cases hr:ar ⟨old,fs,m.1⟩ with
  |true=>exact⟨rfl,rfl,by simp⟩
  |false=>show(_ || !false)=true;simp
theorem qC {am am1 am2:Bool} {old fs:List Fd} {t:Tb} {l l1 l2:EN} (h:dU am (jg l) fs l1 am1) (h2:dU am1 (jG old fs l1) t l2 am2):dU am (jH old false l) t l2 am2:=by
 unfold jH
 cases e1:jg l with
 |none=>rw[e1] at h;exact h2.mono h
 |some y=>rw[e1] at h;obtain⟨rfl,rfl,rfl⟩:=h;exact h2
theorem we {f:Fd} (h:bW f.k f.l=true):aT f.k f.l=(f.n:Int)/\f.n<=64:=by
 obtain⟨n,hn,_,h64,_⟩:=ot h
 have:f.n=n:=by rw[Fd.n,hn];rfl
 rw[this];exact⟨hn,h64⟩
theorem wl {am am1 am2 am3:Bool} {f:Fd} {r l1 l2 bs:EN} (h1:dU am (cJ 1 r) 255 l1 am1) (h2:dU am1 (dI f.n l1) bs l2 am2) (h3:am3=(am2 || !fZ bs f.k f.l)):dU am (jf f r) ⟨-1,gu bs f⟩ l2 am3:=by
 subst h3
 unfold jf
 cases e1:cJ 1 r with
 |none=>rw[e1] at h1;have:=h2.mono h1;subst this;exact Bool.true_or _
 |some y=>
  rw[e1] at h1
  obtain⟨hy,rfl,rfl⟩:=h1
  simp only
  rw[Xz hy.symm]
  cases e2:dI f.n y.2 with
  |none=>rw[e2] at h2;have:am2=true:=h2;subst this;exact Bool.true_or _
  |some z=>
   rw[e2] at h2
   obtain⟨rfl,rfl,rfl⟩:=h2
   simp only
   cases hd:fZ z.1 f.k f.l with
   |true=>exact⟨rfl,rfl,by simp⟩
   |false=>show(_ || !false)=true;simp
end
end Go.Proofs.YteembinfgbapgaaGreat
