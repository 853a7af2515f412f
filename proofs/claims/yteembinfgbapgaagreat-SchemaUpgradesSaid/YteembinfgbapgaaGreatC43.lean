/- Merged out of: Vl Vm. -/
import Derived.Test.YteembinfgbapgaaGreatC00
import Derived.Test.YteembinfgbapgaaGreatC42
set_option linter.unusedSimpArgs false
set_option linter.unusedVariables false
set_option maxRecDepth 100000
set_option maxHeartbeats 8000000
namespace Go.Proofs.YteembinfgbapgaaGreat
section
open Go.RowKit Go.Lib Go.Maps
theorem bytesV_len (x:List UInt8):(bytesV x).length=x.length:=by simp[bytesV]
theorem bytesV_one (x:List UInt8):∀u∈bytesV x,u.oneCell'=true:=by
 intro u hu;simp[bytesV] at hu;obtain⟨y,_,rfl⟩:=hu;rfl
theorem Rd.at_bytes {w:World} {A:Option Addr} {x:List UInt8} (h:Rd w A (bytesV x)) (hx:0<x.length):∃ad,A=some ad∧∀j u,(bytesV x)[j]?=some u→w.cell? (ad.add j)=some u:=h (by intro e;have:=congrArg List.length e;rw[bytesV_len] at this;simp at this;rw[this] at hx;simp at hx)
theorem RdP.own {w w':World} {v v':Value} {A:Option Addr} {cs:List Value} (h:RdP (fun g=>v.ownBlock≠some g) w A cs) (hg:w.grownBy w' v.ownBlock) (hat:v'.ownBlock=v.ownBlock∨v'.ownBlock=some w.heap.size):RdP (fun g=>v'.ownBlock≠some g) w' A cs:=by
 have h1:=h.lt.keep (w':=w') (fun g hgg=>hg.block g hgg.2 (fun e=>hgg.1 e.symm))
 refine h1.mono fun g hgg=>?_
 rcases hat with e|e
 ·rw[e];exact hgg.1
 ·rw[e];intro e2;have:=Jj e2;omega
theorem box_own {w w':World} {v v':Value} {b:Nat} {cs:List Value} {T:TypeId} (h:OBox w b cs T) (hn:v.ownBlock≠some b) (hg:w.grownBy w' v.ownBlock) (hat:v'.ownBlock=v.ownBlock∨v'.ownBlock=some w.heap.size):OBox w' b cs T∧v'.ownBlock≠some b:=by
 refine⟨h.grown hg (fun e=>hn e.symm),?_⟩
 have:=h.lt
 rcases hat with e|e
 ·rw[e];exact hn
 ·rw[e];intro e2;have:=Jj e2;omega
theorem wpList_append_nil {P:Program} {ops:Array Oper} {rest:List Oper} {o:Oper} {a:Act} {w:World} {Q:Exit→Act→World→Prop} (hgd:o.guard=none) (s x:Operand) (t:TypeId)
 (ho:o.op=.call { callee:=.builtin .append,args:=#[s,x],argTypes:=#[t,t] }) (base:Nat) (e:TypeId) (i:TypeInfo) (size:Nat) (ht:P.underlying t=some (.slice e)) (hi:P.info? e=some i)
 (v:Value) (n:Nat) (xs:List Value) (hs:a.eval s=v) (hown:w.ownsRow base e size v n xs) (hx:a.eval x=.slice none 0 0) (h:wpList P ops Q rest (a.put o.dst v) w):wpList P ops Q (o :: rest) a w:=by
 refine wpList_plain hgd fun K hK=>?_
 have hr:=run_append_owned_none (P:=P) w base t o.type e i size ht hi v n xs hown
 unfold Oper.wp execOp
 simp only[ho,resolve,invoke,builtin,Sem.run_bind,Sem.run_pure,Result.andThen_ok,List.map_toArray,List.map_cons,List.map_nil,hs,hx,hr]
 exact hK _ _ h
theorem one_byte {n:Nat} (h:n<256):bytesV (leL (n:Int) 1)=[.int .u8 (n:Int)]:=by
 have e:leL (n:Int) 1=[UInt8.ofNat n]:=by
  simp only[leL,List.range_one,List.map_cons,List.map_nil,byteZ]
  congr 2
  simp
  omega
 rw[e]
 simp[bytesV,UInt8.toNat_ofNat,Nat.mod_eq_of_lt h]
theorem mv_byte {o:List Fd} {g:Fd} {m:Mv} (h:okMv o g m=true) (h16:o.length≤16):∃b:Int,IntKind.u8.wrap m.f=b∧bytesV (if m.f=-1 then[255] else leL m.f 1)=[.int .u8 b]:=by
 by_cases hf:m.f=-1
 ·refine⟨255,by rw[hf];decide,by rw[if_pos hf];rfl⟩
 ·obtain⟨h0,_,f,hof,_⟩:=okMv_pos hf h
  have hlt:=(J6.1 hof).1
  obtain⟨q,hq⟩:∃q:Nat,m.f=(q:Int):=⟨m.f.toNat,by omega⟩
  rw[hq] at hlt hf ⊢
  refine⟨q,IntWalk.u8_in _ (by omega),by rw[if_neg hf];exact one_byte (by omega)⟩
theorem fits_one {n:Nat} (h:n<256):fitsB (n:Int) (1:Nat) false=true:=by simp[fitsB,widthB,topZ];omega
theorem fits_two {n:Nat} (h:n<65536):fitsB (n:Int) (2:Nat) false=true:=by simp[fitsB,widthB,topZ];omega
theorem ent_of {E:List En} (hok:CatOk (E.map (·.y))) {L:List Ty} (hL:L.Perm (E.map (·.y))) {k:Nat} {y:Ty} (hy:L[k]?=some y):∃d,findE E y.s=some d∧d.y=y:=by
 have hm:=hL.subset (J7 hy)
 obtain⟨t,ht⟩:=findY_of (D:=E.map (·.y)) (nm:=y.s) (X5.2 ⟨y,hm,rfl⟩)
 obtain⟨h1,h2⟩:=findY_mem ht
 have hty:t=y:=by
  obtain⟨i,hi⟩:=Qq.1 h1
  obtain⟨j,hj⟩:=Qq.1 hm
  have a1:((E.map (·.y)).map (·.s))[i]?=some y.s:=by rw[Kv,hi];exact congrArg some h2
  have a2:((E.map (·.y)).map (·.s))[j]?=some y.s:=by rw[Kv,hj];rfl
  have hij:=(List.getElem?_inj (J6.1 a1).1 hok.nd).1 (a1.trans a2.symm)
  subst hij
  rw[hi] at hj
  exact Jj hj
 subst hty
 exact findE_of ht
theorem Encode9_m {W:World} {cp mp:Nat} {E:List En} {es:List MapEntry} {clock:Nat} (h:CatIs 89 80 W cp mp E es clock) (hok:CatOk (E.map (·.y))) (L:List Ty) (hL:L.Perm (E.map (·.y))) (hrk:Ranked L) (z:Nat) (hz:(catB L).length=z):
 Calls Tryz.prog 27 #[.pointer (some ⟨cp,0,none⟩)] W fun e w'=>∃B c,e=.returned (.slice B z c)∧Rd w' B (bytesV (catB L))∧Below W.heap.size W w':=by
 obtain⟨i0,hi,hz0,hz1,hz2⟩:=info_parts info5
 obtain⟨n,hn⟩:∃n,L.length=n:=⟨_,rfl⟩
 have hel:es.length=n:=by have:=congrArg List.length h.prs;rw[prs_len,Kz] at this;have h2:=hL.length_eq;rw[Kz] at h2;omega
 have h16:n≤16:=by have h2:=hL.length_eq;have:=hok.len;omega
 have hLo:∀y∈L,y.Ok:=fun y hy=>hok.ok y (hL.subset hy)
 have hwn:IntKind.u8.wrap (n:Int)=(n:Int):=IntWalk.u8_in _ (by omega)
 have HH:=J0 h;have HOK:=J0 hok;have HL:=J0 hL;have HRK:=J0 hrk;have HZ:=J0 hz;have HN:=J0 hn;have HLO:=J0 hLo
 obtain⟨b0,_⟩:=h.box.f1
 have k3:=len_cat h.map
 rw[hel] at k3
 have nb:=below_new (w:=W) (.cells #[.int .u8 (n:Int)] 5)
 have own0:(W.alloc (.cells #[.int .u8 (n:Int)] 5)).ownsRow W.heap.size 5 1 (.slice (some ⟨W.heap.size,0,none⟩) 1 1) 1 (bytesV (leL (n:Int) 1++tysB L 0)):=by
  rw[tysB_zero,List.append_nil,one_byte (by omega)]
  exact⟨rfl,.inr ⟨_,1,#[.int .u8 (n:Int)],rfl,J9 _,World.alloc_heap_new _ _,J9 _,by decide,rfl,rfl⟩⟩
 clear h hok hL hrk hz hn hel hLo
 go_enter Tryz.func27,Tryz.ntmps27
 go_upto_region 3 with (go_at_call 14;refine(Names_s (HH.out.below nb) (by have:=HOK.out.len;simp at this;omega) L HL.out HRK.out).mono ?_;rw[HN.out];rintro e w1 ⟨Bn,cn,rfl,hrn,hb1⟩)
 have HB1:=nb.trans (hb1.mono nb.size)
 have hrn0:RdP (fun g=>(Value.slice (some ⟨W.heap.size,0,none⟩) 1 1).ownBlock≠some g) w1 Bn (cellsS (L.map (·.s))):=hrn.mono (fun g hg=>by intro e;have h2:some W.heap.size=some g:=e;have:=Jj h2;simp at hg;omega)
 clear hrn
 have own1:=own_below own0 hb1
 clear nb own0 hb1 b0 k3
 go_loopw [3,5,25] (fun v _ i wr=>∃(k l:Nat),k≤n∧i=.int .i64 k∧Hid ((leL (n:Int) 1++tysB L k).length=l)∧wr.ownsRow W.heap.size 5 1 v l (bytesV (leL (n:Int) 1++tysB L k))∧Below W.heap.size W wr∧RdP (fun g=>v.ownBlock≠some g) wr Bn (cellsS (L.map (·.s)))) (fun _ _ i _=>n - (intOf i).toNat)
 case atStart=>exact⟨0,1,by omega,rfl,J0 (by simp[tysB_zero,leL_length]),own1,HB1,hrn0⟩
 case round=>
  obtain⟨k,l,hk,rfl,hl,hown,HB,hrn2⟩:=hrel
  clear HB1 own1 hrn0
  obtain⟨V,vc,rfl,_,_,_⟩:=own_rd hown
  by_cases hlt:k<n
  ·obtain⟨y,hy⟩:∃y,L[k]?=some y:=⟨_,J4 (by rw[HN.out];exact hlt)⟩
   obtain⟨nd,rfl,n0⟩:=hrn2.rd.at (j:=k) (u:=.string y.s) (by simp[cellsS,hy])
   obtain⟨d,hd,hdy⟩:=ent_of HOK.out HL.out hy
   have hyo:=HLO.out y (J7 hy)
   have hH:=HH.out.below HB
   have hmx:y.s.size≤maxLen:=name_max hyo.nm
   have k1:=look_sort hH hmx
   rw[hd] at k1
   have b0:=hH.box.f1.1
   have hdI:=hH.ents d (findE_mem hd).1
   obtain⟨g,c,m,ev,hnc,hnl,hsum,htop,hpos,hrd⟩:=En.open hdI (by rw[hdy];exact hyo)
   have hbx:=hdI.box
   rw[ev] at hbx
   have htabs:=hdI.tabs
   have hdE:=(findE_mem hd).1
   rw[hdy] at hbx hsum htop htabs
   obtain⟨bp,hp⟩:∃p,d.p=p:=⟨_,rfl⟩
   simp only[hp] at k1
   rw[hp] at hbx
   have hym:=hyo.nm
   obtain⟨sz,hsz⟩:∃q,y.s.size=q:=⟨_,rfl⟩
   have hsz15:1≤sz∧sz≤15:=by
    unfold nameB at hym
    rw[Qy] at hym
    have:=of_decide_eq_true hym.2
    omega
   obtain⟨old,hold⟩:∃q,y.old=q:=⟨_,rfl⟩
   obtain⟨top,htp⟩:∃q,y.top=q:=⟨_,rfl⟩
   rw[hold] at hbx hsum
   rw[htp] at hsum htop
   have hm64:m≤64:=by have:=hyo.lo;omega
   have HY:=J0 hy;have HYO:=J0 hyo;have HSZ:=J0 hsz;have HS:=J0 hsum;have HTB:=J0 htabs;have HOD:=J0 hold;have HTP:=J0 htp;have HNL:=J0 hnl;have HDE:=J0 hdE
   have hl6:l≤1400000:=by
    have h1:=tysB_len HLO.out (by rw[HN.out];omega) k
    have h2:=hl.out
    rw[Qz,leL_length] at h2
    omega
   have hcb:=conv_bytes y.s wr
   rw[hsz] at hcb
   have hall:∀W',Below W.heap.size W W'→OBox W' bp [.int .i64 (old:Nat),.slice (some ⟨g,0,none⟩) m c] 89∧Rd W' (some ⟨g,0,none⟩) (cellsT d.xs)∧∀X∈d.xs,Rd W' X.B (cellsF X.t.n)∧Rd W' X.C (cellsM X.t.m):=fun W' hb=>by
    have hc:=HH.out.below hb
    have hI:=hc.ents d hdE
    have hb1:=hI.box
    rw[ev,hdy,hold,hp] at hb1
    have hr1:=hI.row
    rw[ev,hnl] at hr1
    exact⟨hb1,own_rd_blk hr1,fun X hX=>⟨(hc.tabs d hdE X hX).n.rd,(hc.tabs d hdE X hX).m.rd⟩⟩
   have HALL:=J0 hall
   have hbpW:bp<W.heap.size:=(hall W (Jy _ _)).1.lt
   clear hy hyo hsz hsum htabs hold htp hnl hdE hd hdy hdI ev hmx hym hp hH hall
   go_upto_region 6 with fail
   clear n0 k1 b0
   have hbw:=bytesWorld_below wr 5 y.s
   have hrw:=bytesWorld_rd wr 5 y.s
   have ownA:=own_below hown hbw
   go_upto_region 7 with (first
    |(go_at_call 59;refine(sized_m _ sz _ (bl y.s) (by rw[bl_length];exact HSZ.out) (by omega) 1 (by omega) (fits_one (by omega)) (by omega) _ hrw).mono ?_;rintro e w4 ⟨B4,c4,rfl,r4,hb4⟩;obtain⟨a4,ha4,hc4⟩:=r4.at_bytes (by rw[Qz,leL_length];omega);subst ha4;have ownB:=own_below ownA hb4;have hrnB:=(hrn2.up hbw).up hb4;have hz4:=Q7 hbw.size hb4.size;have hzr:=HB.size)
    |(at_builtin;refine wpList_append_own_at _ rfl _ _ 44 rfl W.heap.size 5 i0 (.int .u8 0) 1 1 Tryz.underlying44 hi hz0 hz1 hz2 rfl (by decide) _ _ _ rfl ownB a4 (1+sz) c4 (bytesV (leL (sz:Int) 1++bl y.s)) rfl ?c0 ?c1 ?c2 ?c3 ?c4 ?c5 ?_))
   case c0=>rw[bytesV_len,Qz,leL_length,bl_length,HSZ.out];omega
   case c1=>exact hc4
   case c2=>exact bytesV_one _
   case c3=>simp only[maxLen];omega
   case c4=>omega
   case c5=>omega
   intro v5 w5 hown' hgrow _ hat
   have hrn5:=hrnB.own hgrow hat
   have own5:w5.ownsRow W.heap.size 5 1 v5 (l+(1+sz)) (bytesV (leL (n:Int) 1++tysB L k++(leL (sz:Int) 1++bl y.s))):=own_eq hown' (by simp) (by rw[bytesV_append (leL (n:Int) 1++tysB L k)])
   have HB4:=(HB.trans (hbw.mono HB.size)).trans (hb4.mono (by have:=HB.size;have:=hbw.size;omega))
   have HB5:=HB4.grown hgrow HB4.size (fun q hq=>own_base ownB q hq)
   have hHb:∀q,q<W.heap.size→w5.heap[q]?=W.heap[q]?:=fun q hq=>HB5.block q hq
   clear hown' hgrow hown ownA ownB hc4 r4 hbw hrw hcb hb4 hat hrnB hrn2
   obtain⟨V5,c5,rfl,_,_,_⟩:=own_rd own5
   go_upto_region 7 with fail
   clear hbx hrd
   obtain⟨hbx5,_,_⟩:=HALL.out w5 HB5
   have own5d:w5.drew.ownsRow _ _ _ _ _ _:=own_below own5 (Jy w5.heap.size w5).drew
   have hbx5d:OBox w5.drew bp [.int .i64 (old:Nat),.slice (some ⟨g,0,none⟩) m c] 89:=hbx5
   have HB5d:=HB5.drew
   have hrn5d:=hrn5.up (Jy w5.heap.size w5).drew
   have s0:w5.drew.cell? ⟨bp,0,none⟩=some (.int .i64 (old:Nat)):=hbx5d.f2.1
   have hne5:∀(V:Option Addr) (cc:Nat) {w':World} {xs:List Value} {nn:Nat},w'.ownsRow W.heap.size 5 1 (.slice V nn cc) nn xs→some bp≠(Value.slice V nn cc).ownBlock:=fun V cc w' xs nn ho e=>by have:=own_base ho bp e.symm;omega
   have hw8a:IntKind.u8.wrap (old:Int)=(old:Int):=IntWalk.u8_in _ (by have:=HS.out;omega)
   have hw8b:IntKind.u8.wrap (top:Int)=(top:Int):=IntWalk.u8_in _ (by omega)
   refine wp_region_noPanic ?_
   refine wp_region_held_drew (S:=(fun W'=>W'.cell? ⟨bp,0,none⟩=some (.int .i64 (old:Nat)))) (by kernel_rfl) ?_ (fun hHeld=>?_)
   ·exact s0
   refine wpAnyH_take (i:=0) (oi:=_) (v:=?_) rfl (by kernel_rfl) (by kernel_rfl) (by kernel_rfl) (fun _ _ _ h=>h) (Or.inl ⟨by rfl,?_⟩) hHeld ?_
   rotate_left
   ·(intro w hSw;(try dsimp only at hSw);go_simp;first|done|with_reducible rfl)
   try simp only[Act.put,J1,J3,J2,Ky,K9,Jz]
   refine wpAnyH_take (i:=1) (oi:=_) (v:=?_) rfl (by kernel_rfl) (by kernel_rfl) (by kernel_rfl) (fun _ _ _ h=>h) (Or.inl ⟨by rfl,?_⟩) hHeld ?_
   rotate_left
   ·(intro w hSw;(try dsimp only at hSw);go_simp;first|done|with_reducible rfl)
   try simp only[Act.put,J1,J3,J2,Ky,K9,Jz]
   refine wpAnyH_take (i:=2) (oi:=_) (v:=?_) rfl (by kernel_rfl) (by kernel_rfl) (by kernel_rfl) (fun _ _ _ h=>h) (Or.inl ⟨by rfl,?_⟩) hHeld ?_
   rotate_left
   ·(intro w hSw;(try dsimp only at hSw);go_simp;first|done|with_reducible rfl)
   try simp only[Act.put,J1,J3,J2,Ky,K9,Jz]
   refine wpAnyH_take (i:=3) (oi:=_) (v:=?_) rfl (by kernel_rfl) (by kernel_rfl) (by kernel_rfl) (fun _ _ _ h=>h) (Or.inl ⟨by rfl,?_⟩) hHeld ?_
   rotate_left
   ·(intro w hSw;(try dsimp only at hSw);go_simp;first|done|with_reducible rfl)
   try simp only[Act.put,J1,J3,J2,Ky,K9,Jz]
   refine wpAnyH_take (i:=4) (oi:=_) (v:=?_) rfl (by kernel_rfl) (by kernel_rfl) (by kernel_rfl) (fun _ _ _ h=>h) (Or.inl ⟨by rfl,?_⟩) hHeld ?_
   rotate_left
   ·(intro w hSw;(try dsimp only at hSw);go_simp;first|done|with_reducible rfl)
   try simp only[Act.put,J1,J3,J2,Ky,K9,Jz]
   refine wpAnyH_take (i:=5) (oi:=_) (v:=?_) rfl (by kernel_rfl) (by kernel_rfl) (by kernel_rfl) (fun _ _ _ h=>h) (Or.inl ⟨by rfl,?_⟩) hHeld ?_
   rotate_left
   ·(intro w hSw;(try dsimp only at hSw);go_simp;first|done|with_reducible rfl)
   try simp only[Act.put,J1,J3,J2,Ky,K9,Jz]
   refine wpAnyH_take (i:=6) (oi:=_) (v:=?_) rfl (by kernel_rfl) (by kernel_rfl) (by kernel_rfl) (fun _ _ _ h=>h) (Or.inl ⟨by rfl,?_⟩) hHeld ?_
   rotate_left
   ·(intro w hSw;(try dsimp only at hSw);go_simp;first|done|with_reducible rfl)
   try simp only[Act.put,J1,J3,J2,Ky,K9,Jz]
   refine wpAnyH_ready (rs:=[7]) (by kernel_rfl) (by simp) ?_
   refine AllReadyH.cons (o:=_) rfl (fun K hK=>?_) AllReadyH.nil
   go_simp
   (go_at_call 33;refine(newest_m bp old m _ c top HS.out (by omega) _ hbx5d).mono ?_;rintro e wN ⟨rfl,hbN⟩;have s1:=((hbx5d).below hbN).f2.1;have ownN:=own_below own5d hbN;have hbxN:=hbx5d.below hbN;have hzN:=hbN.size;have HBN:Below W.heap.size W wN:=HB5d.trans (hbN.mono HB5d.size))
   try (go_wp2_with fail)
   refine hK.out _ _ ?_ (fun hHeld=>?_)
   ·(try dsimp only);first|assumption|exact s0
   clear hK K
   try simp only[Act.put,J1,J3,J2,Ky,K9,Jz]
   refine wpAnyH_take (i:=8) (oi:=_) (v:=?_) rfl (by kernel_rfl) (by kernel_rfl) (by kernel_rfl) (fun _ _ _ h=>h) (Or.inl ⟨by rfl,?_⟩) hHeld ?_
   rotate_left
   ·(intro w hSw;(try dsimp only at hSw);go_simp;first|done|with_reducible rfl)
   try simp only[Act.put,J1,J3,J2,Ky,K9,Jz]
   refine wpAnyH_ready (rs:=[9]) (by kernel_rfl) (by simp) ?_
   refine AllReadyH.cons (o:=_) rfl (fun K hK=>?_) AllReadyH.nil
   go_simp
   have s2:=(hbxN.below (below_new (.cells #[.int .u8 (old:Int),.int .u8 (top:Int)] 5))).f2.1
   refine hK.out _ _ ?_ (fun hHeld=>?_)
   ·(try dsimp only);first|assumption|exact s0
   clear hK K
   try simp only[Act.put,J1,J3,J2,Ky,K9,Jz]
   refine wpAnyH_ready (rs:=[10]) (by kernel_rfl) (by simp) ?_
   refine AllReadyH.cons (o:=_) rfl (fun K hK=>?_) AllReadyH.nil
   have hbase10:W.heap.size≤(wN.alloc (.cells #[.int .u8 (old:Int),.int .u8 (top:Int)] 5)).heap.size:=by have:=HBN.size;simp;omega
   refine step_append_own rfl (.tmp 40) (.tmp 49) 44 rfl W.heap.size 5 i0 (.int .u8 0) 1 1 Tryz.underlying44 hi hz0 hz1 hz2 rfl (by decide) (.slice V5 (l+(1+sz)) c5) (l+(1+sz)) _ (by simp[Act.eval]) (own_below ownN (below_new _)) ⟨wN.heap.size,0,none⟩ 2 2 [.int .u8 (old:Int),.int .u8 (top:Int)] (by simp[Act.eval]) rfl (newsL wN [.int .u8 (old:Int),.int .u8 (top:Int)] 5 (by simp)) (by intro u hu;simp at hu;rcases hu with rfl|rfl <;> rfl) (by simp only[maxLen];omega) (by omega) hbase10 ?_
   intro v7 w7 own7 gr7 hat7
   have s3:w7.cell? ⟨bp,0,none⟩=some (.int .i64 (old:Nat)):=(OBox.grown (hbxN.below (below_new _)) gr7 (hne5 _ _ ownN)).f2.1
   obtain⟨V7,c7,e7,_,_,_⟩:=own_rd own7
   subst e7
   refine hK.out _ _ ?_ (fun hHeld=>?_)
   ·(try dsimp only);first|assumption|exact s0
   clear hK K
   try simp only[Act.put,J1,J3,J2,Ky,K9,Jz]
   refine wpAnyH_take (i:=11) (oi:=_) (v:=?_) rfl (by kernel_rfl) (by kernel_rfl) (by kernel_rfl) (fun _ _ _ h=>h) (Or.inl ⟨by rfl,?_⟩) hHeld ?_
   rotate_left
   ·(intro w hSw;(try dsimp only at hSw);go_simp;first|done|with_reducible rfl)
   try simp only[Act.put,J1,J3,J2,Ky,K9,Jz]
   refine wpAnyH_done (by kernel_rfl) ?_ _
   refine NoPanic.normal ?_
   have HB7:Below W.heap.size W w7:=(HBN.alloc HBN.size (.cells #[.int .u8 (old:Int),.int .u8 (top:Int)] 5)).grown gr7 (by have:=HBN.size;simp;omega) (fun q hq=>own_base ownN q hq)
   have own8:w7.ownsRow W.heap.size 5 1 (.slice V7 (l+(1+sz)+2) c7) (l+(1+sz)+2) (bytesV (leL (n:Int) 1++tysB L k++headB y)):=own_eq own7 rfl (by
    have e1:=one_byte (n:=old) (by have:=HS.out;omega)
    have e2:=one_byte (n:=top) (by omega)
    rw[headB,HSZ.out,HOD.out,HTP.out]
    simp only[bytesV_append,e1,e2,Xj,List.cons_append,List.nil_append])
   clear own5 own5d ownN own7 hbx5 hbx5d HB5d s0 s1 s2 s3 hbxN HBN hbase10
   have hrn7:=((hrn5d.up hbN).up (below_new (.cells #[.int .u8 (old:Int),.int .u8 (top:Int)] 5))).own gr7 hat7
   obtain⟨P1,hP1⟩:∃P,leL (n:Int) 1++tysB L k++headB y=P:=⟨_,rfl⟩
   obtain⟨l7,hl7⟩:∃q,l+(1+sz)+2=q:=⟨_,rfl⟩
   rw[hP1,hl7] at own8
   rw[hl7] at hrn7
   have hl7b:l7≤1400100:=by omega
   have hP1l:P1.length=l7:=by have:=own8.1;rw[bytesV_len] at this;omega
   have HP1:=J0 hP1;have HPL:=J0 hP1l
   obtain⟨hbx7,_,_⟩:=HALL.out w7 HB7
   obtain⟨_,t1,_,_⟩:=hbx7.f2
   clear hP1 hP1l hl hbx7 hrn5 hrn5d gr7 hat7 hbN
   go_upto_region 9 with fail
   rw[hl7]
   clear t1 hl7
   go_loopw [3,7,8,56] (fun v _ _ ix wx=>∃(i l2:Nat),i≤m∧ix=.int .i64 i∧l2≤l7+i * 1331∧wx.ownsRow W.heap.size 5 1 v l2 (bytesV (P1++tabsB y i))∧Below W.heap.size W wx∧RdP (fun g=>v.ownBlock≠some g) wx (some nd) (cellsS (L.map (·.s)))) (fun _ _ _ ix _=>m - (intOf ix).toNat)
   case atStart=>exact⟨0,l7,by omega,rfl,by omega,by rw[tabsB_zero,List.append_nil];exact own8,HB7,hrn7⟩
   case round=>
    rename World=>wx
    obtain⟨i,l2,him,rfl,hl2,own2,HB2,hrn2⟩:=hrel
    clear HB7 own8 hrn7
    obtain⟨V2,c2,rfl,_,_,_⟩:=own_rd own2
    by_cases hin:i<m
    ·obtain⟨X,hX⟩:∃X,d.xs[i]?=some X:=⟨_,J4 (by rw[HNL.out];exact hin)⟩
     obtain⟨t,ht⟩:∃t,X.t=t:=⟨_,rfl⟩
     have hyt:y.ts[i]?=some t:=by rw[←HTB.out,Kv,hX,←ht];rfl
     have hto:=HYO.out.ok t (J7 hyt)
     obtain⟨hrl,hrN,hlM,hokm⟩:=rightT_iff.1 hto.r
     obtain⟨_,hrd2,hrows2⟩:=HALL.out wx HB2
     obtain⟨t0,t1,t2⟩:=Rd.tab hrd2 hX
     obtain⟨rN,rM⟩:=hrows2 X (J7 hX)
     rw[ht] at t0 t1 t2 rN rM
     obtain⟨no,hno⟩:∃q,t.o.length=q:=⟨_,rfl⟩
     obtain⟨nf,hnf⟩:∃q,t.n.length=q:=⟨_,rfl⟩
     obtain⟨nm,hnm⟩:∃q,t.m.length=q:=⟨_,rfl⟩
     rw[hno] at t0;rw[hnf] at t1;rw[hnm] at t2
     have hnf16:=(rightF_may hrN).2
     rw[hnf] at hnf16
     have hmf:nm=nf:=by omega
     obtain⟨x2,hx2⟩:∃q,wrL t.n=q:=⟨_,rfl⟩
     obtain⟨n2,hn2⟩:∃q,x2.length=q:=⟨_,rfl⟩
     have hn2b:0<n2∧n2≤289:=by
      have h1:=wrL_len t.n
      rw[hx2,hn2] at h1
      have h2:x2=encFL t.n:=by rw[←hx2,wrL,if_pos hrN]
      rw[h2,encFL] at hn2
      simp at hn2
      omega
     have hfb:fldB t.n=leL (n2:Int) 2++x2:=by rw[fldB,hx2,hn2]
     have nbT:=below_new (w:=wx) (.cells #[.slice X.A no X.a,.slice X.B nf X.b,.slice X.C nm X.c] 96)
     have PT:=OBox.new wx [.slice X.A no X.a,.slice X.B nf X.b,.slice X.C nm X.c] 96
     have hsepT:(Value.slice V2 l2 c2).ownBlock≠some wx.heap.size:=fun e=>by have:=own_lt own2 _ e;omega
     have own2a:=own_below own2 nbT
     have hrn2a:=hrn2.up nbT
     have HB2a:=HB2.trans (nbT.mono HB2.size)
     have rNa:=rN.below nbT
     have HT:=J0 hyt;have HTO:=J0 hto;have HNF:=J0 hnf;have HNM:=J0 hnm;have HX2:=J0 hx2;have HN2:=J0 hn2;have HFB:=J0 hfb;have HMF:=J0 hmf;have HOKM:=J0 hokm;have HXm:=J0 (J7 hX);have HXT:=J0 ht
     clear hyt hto hnf hnm hx2 hn2 hfb hmf hokm hX ht hrl hrN hlM hno hrd2 hrows2 rN rM hrn2 own2 HB2
     go_upto_region 11 with fail
     generalize wx.alloc (.cells #[.slice X.A no X.a,.slice X.B nf X.b,.slice X.C nm X.c] 96)=wT at *
     generalize wx.heap.size=tb at *
     obtain⟨p0,p1,p2,_,_,_⟩:=PT.f3
     clear t0 t1 t2 nbT
     have hztb:=PT.lt
     go_upto_region 13 with (first
      |(go_at_call 60;refine(Encode_m X.B X.b nf t.n HNF.out x2 HX2.out n2 HN2.out _ rfl _ rNa (by omega)).mono ?_;rintro e w4 ⟨B4,c4,rfl,hc4,r4,hb4⟩;have own4:=own_below own2a hb4;have hrn4:=hrn2a.up hb4;have PT4:=PT.below hb4;have HB4:=HB2a.trans (hb4.mono HB2a.size))
      |(go_at_call 59;refine(sized_m _ n2 _ x2 HN2.out hn2b.1 2 (by omega) (fits_two (by omega)) (by omega) _ r4).mono ?_;rintro e w5 ⟨B5,c5',rfl,r5,hb5⟩;obtain⟨a5,ha5,hc5⟩:=r5.at_bytes (by rw[Qz,leL_length];omega);subst ha5;have own5:=own_below own4 hb5;have hrn5:=hrn4.up hb5;have PT5:=PT4.below hb5;have HB5:=HB4.trans (hb5.mono HB4.size))
      |(at_builtin;refine wpList_append_own_at _ rfl _ _ 44 rfl W.heap.size 5 i0 (.int .u8 0) 1 1 Tryz.underlying44 hi hz0 hz1 hz2 rfl (by decide) _ _ _ rfl own5 a5 (2+n2) c5' (bytesV (leL (n2:Int) 2++x2)) rfl ?c0 ?c1 ?c2 ?c3 ?c4 ?c5 ?_))
     case c0=>rw[bytesV_len,Qz,leL_length,HN2.out];omega
     case c1=>exact hc5
     case c2=>exact bytesV_one _
     case c3=>simp only[maxLen];omega
     case c4=>omega
     case c5=>exact HB5.size
     intro v6 w6 hown' hgrow _ hat
     have hrn6:=hrn5.own hgrow hat
     obtain⟨PT6,hsep6⟩:=box_own PT5 hsepT hgrow hat
     have HB6:=HB5.grown hgrow HB5.size (fun q hq=>own_base own5 q hq)
     obtain⟨P2,hP2⟩:∃P,P1++tabsB y i++fldB t.n=P:=⟨_,rfl⟩
     have own6:w6.ownsRow W.heap.size 5 1 v6 (l2+(2+n2)) (bytesV P2):=own_eq hown' (by simp) (by rw[←hP2,HFB.out,bytesV_append (P1++tabsB y i)])
     obtain⟨V6,c6,rfl,_,_,_⟩:=own_rd own6
     have HP2:=J0 hP2
     clear hown' hgrow hat own5 own4 own2a hrn5 hrn4 hrn2a PT PT4 PT5 p0 p1 p2 hP2 hb4 hb5 HB2a HB4 HB5 r4 r5 hc5
     obtain⟨p0,p1,p2,_,_,_⟩:=PT6.f3
     go_upto_region 14 with fail
     clear p0 p1 p2
     obtain⟨l6,hl6⟩:∃q,l2+(2+n2)=q:=⟨_,rfl⟩
     rw[hl6] at own6 hrn6 hsep6 ⊢
     have hl6b:l6≤l2+291:=by omega
     go_loopw [3,11,12,74] (fun v _ _ ix wy=>∃(j l3:Nat),j≤nm∧ix=.int .i64 j∧l3≤l6+j * 65∧wy.ownsRow W.heap.size 5 1 v l3 (bytesV (P2++(if i=0 then[] else mvsB t j)))∧Below W.heap.size W wy∧RdP (fun g=>v.ownBlock≠some g) wy (some nd) (cellsS (L.map (·.s)))∧OBox wy tb [.slice X.A no X.a,.slice X.B nf X.b,.slice X.C nm X.c] 96∧v.ownBlock≠some tb) (fun _ _ _ ix _=>nm - (intOf ix).toNat)
     case atStart=>exact⟨0,l6,by omega,rfl,by omega,by rw[mvsB_zero,ite_self,List.append_nil];exact own6,HB6,hrn6,PT6,hsep6⟩
     case round=>
      rename World=>wy
      obtain⟨j,l3,hjm,rfl,hl3,own3,HB3,hrn3,PT3,hsep3⟩:=hrel
      clear HB6 own6 hrn6 PT6 hsep6
      obtain⟨V3,c3,rfl,_,_,_⟩:=own_rd own3
      by_cases hjn:j<nm
      ·obtain⟨mv,hmv⟩:∃q,t.m[j]?=some q:=⟨_,J4 (by rw[HNM.out];exact hjn)⟩
       obtain⟨f,hf⟩:∃q,t.n[j]?=some q:=⟨_,J4 (by rw[HNF.out];have:=HMF.out;omega)⟩
       obtain⟨_,_,hrows3⟩:=HALL.out wy HB3
       obtain⟨rN,rM⟩:=hrows3 X HXm.out
       rw[HXT.out] at rN rM
       obtain⟨md,hmd,m0,m1,m2,m3⟩:=rM.mv hmv
       have hok1:okMv t.o f mv=true:=by
        have:=HOKM.out j (by rw[HNM.out];exact hjn)
        rwa [okAt_mk hmv hf] at this
       obtain⟨bb,hbb,hby⟩:=mv_byte hok1 (rightT_16 HTO.out.r).1
       have hw0:=HTO.out.w mv (J7 hmv)
       obtain⟨x,hx⟩:∃x,encQ9 mv.d f=x:=⟨_,rfl⟩
       obtain⟨nx,hnx⟩:∃q,x.length=q:=⟨_,rfl⟩
       have hnx64:nx≤64:=by rw[←hnx,←hx];exact encQ9_len _ _
       obtain⟨x1,hx1⟩:∃q,(if mv.f=-1 then[255] else leL mv.f 1)=q:=⟨_,rfl⟩
       have hma:mvAt t j=x1++x:=by rw[mvAt,hmv,hf];show mvB mv f=_;rw[mvB,hx,hx1]
       rw[hx1] at hby
       have h0:(0:Int)≤(j:Int):=by omega
       have h1:(j:Int)<(nm:Int):=by omega
       have h2:(j:Int)<(nf:Int):=by have:=HMF.out;omega
       have nbM:=below_new (w:=wy) (.cells #[.int .i64 mv.f,.int .i64 mv.d.k,.int .u64 mv.d.b,.string mv.d.t] 137)
       have PM:=OBox.new wy [.int .i64 mv.f,.int .i64 mv.d.k,.int .u64 mv.d.b,.string mv.d.t] 137
       have own3a:=own_below own3 nbM
       have hrn3a:=hrn3.up nbM
       have HB3a:=HB3.trans (nbM.mono HB3.size)
       have PT3a:=PT3.below nbM
       have rNa:=rN.below nbM
       rw[hmd] at PT3a ⊢
       have HX:=J0 hx;have HNX:=J0 hnx;have HMA:=J0 hma;have HBY:=J0 hby;have HF:=J0 hf;have HW0:=J0 hw0
       clear hmv hf hrows3 rN rM hok1 hw0 hx hnx hma hby own3 hrn3 HB3 PT3 hmd hx1
       go_upto_region 16 with fail
       generalize wy.alloc (.cells #[.int .i64 mv.f,.int .i64 mv.d.k,.int .u64 mv.d.b,.string mv.d.t] 137)=wq at *
       generalize wy.heap.size=mb at *
       clear m0 m1 m2 m3 nbM
       by_cases hi0:i=0
       ·subst hi0
        go_wp2
        go_roundw
        case rel=>
         refine⟨j+1,l3,by omega,by go_num,by omega,?_,HB3a,hrn3a,PT3a,hsep3⟩
         simpa using own3a
        case measure=>simp[intOf];omega
       ·have hi1:decide ((0:Int)<(i:Int))=true:=by simp;omega
        have hi2:(0:Int)<(i:Int):=by omega
        rw[if_neg hi0] at own3a
        go_upto_region 17 with fail
        obtain⟨fd,hfd,_,_,_⟩:=rNa.fld HF.out
        have hcw:∀W',Below wq.heap.size wq W'→W'.cell? ⟨mb,1,none⟩=some (.int .i64 mv.d.k)∧W'.cell? ⟨mb,2,none⟩=some (.int .u64 mv.d.b)∧W'.cell? ⟨mb,3,none⟩=some (.string mv.d.t)∧W'.cell? ⟨tb,1,none⟩=some (.slice (some fd) nf X.b)∧W'.cell? (fd.add (j * 3))=some (.string f.s)∧W'.cell? ⟨(fd.add (j * 3)).block,(fd.add (j * 3)).off+(0+1),none⟩=some (.int .i64 f.k)∧W'.cell? ⟨(fd.add (j * 3)).block,(fd.add (j * 3)).off+(1+1),none⟩=some (.int .i64 f.l)∧Below wq.heap.size wq W':=fun W' hb=>by
         obtain⟨_,q1,q2,q3⟩:=(PM.below hb).f4
         obtain⟨_,q4,_,_,_,_⟩:=(PT3a.below hb).f3
         obtain⟨fd',e,q5,q6,q7⟩:=(rNa.below hb).fld HF.out
         rw[hfd] at e q4
         cases e
         exact⟨q1,q2,q3,q4,q5,q6,q7,hb⟩
        have HCW:=J0 hcw
        obtain⟨dk,hdk⟩:∃q,mv.d.k=q:=⟨_,rfl⟩
        clear hcw hfd hdk
        go_region_held3 (fun W'=>W'.cell? ⟨mb,1,none⟩=some (.int .i64 mv.d.k)∧W'.cell? ⟨mb,2,none⟩=some (.int .u64 mv.d.b)∧W'.cell? ⟨mb,3,none⟩=some (.string mv.d.t)∧W'.cell? ⟨tb,1,none⟩=some (.slice (some fd) nf X.b)∧W'.cell? (fd.add (j * 3))=some (.string f.s)∧W'.cell? ⟨(fd.add (j * 3)).block,(fd.add (j * 3)).off+(0+1),none⟩=some (.int .i64 f.k)∧W'.cell? ⟨(fd.add (j * 3)).block,(fd.add (j * 3)).off+(1+1),none⟩=some (.int .i64 f.l)∧Below wq.heap.size wq W') ((refine HCW.out _ ?_;repeat (first|assumption|exact Jy _ _|apply Jv)))
         ((go_at_call 61;obtain⟨_,_,_,_,_,_,_,HBx⟩:=‹_∧_∧_∧_∧_∧_∧_∧Below wq.heap.size wq _›;refine(kEnc_m mv.d f HW0.out.1 HW0.out.2 _ x HX.out nx HNX.out).mono ?_;rintro e wk ⟨By,cy,qy,rfl,hcy,ry,hy0,hbk⟩;have HBk:=below_seq HBx hbk))
        have ownk:=own_below own3a HBk
        have hrnk:=hrn3a.up HBk
        have PTk:=PT3a.below HBk
        have HBk2:=HB3a.trans (HBk.mono HB3a.size)
        obtain⟨q0,_,_,_⟩:=(PM.below HBk).f4
        have rys:RdP (fun g=>(Value.slice V3 l3 c3).ownBlock≠some g) wk By (bytesV x):=ry.mono (fun g hg e=>by have h3:=own_lt own3a g e;have h4:=HBx.size;omega)
        clear own3a hrn3a PT3a HB3a HBk hbk PM rNa HCW ry
        have nb1:=below_new (w:=wk) (.cells #[.int .u8 bb] 5)
        have ownk1:=own_below ownk nb1
        go_wp2_with (at_builtin;refine wpList_append_own_at _ rfl _ _ 44 rfl W.heap.size 5 i0 (.int .u8 0) 1 1 Tryz.underlying44 hi hz0 hz1 hz2 rfl (by decide) _ _ _ rfl ownk1 ⟨wk.heap.size,0,none⟩ 1 1 [.int .u8 bb] rfl rfl ?c1 ?c2 ?c3 ?c4 ?c5 ?_)
        case c1=>exact newsL _ _ _ (by simp)
        case c2=>intro u hu;simp at hu;subst hu;rfl
        case c3=>simp only[maxLen];omega
        case c4=>omega
        case c5=>have:=HBk2.size;simp;omega
        intro v9 w9 hown9 hgrow9 _ hat9'
        have hat9:v9.ownBlock=(Value.slice V3 l3 c3).ownBlock∨v9.ownBlock=some (wk.alloc (.cells #[.int .u8 bb] 5)).heap.size:=by rw[Jq];exact hat9'
        have hrn9:=(hrnk.up nb1).own hgrow9 hat9
        have ry9:=(rys.up nb1).own hgrow9 hat9
        obtain⟨PT9,hsep9⟩:=box_own (PTk.below nb1) hsep3 hgrow9 hat9
        have HB9:=(HBk2.trans (nb1.mono HBk2.size)).grown hgrow9 (by have:=HBk2.size;simp;omega) (fun q hq=>own_base ownk1 q hq)
        have own9:w9.ownsRow W.heap.size 5 1 v9 (l3+1) (bytesV (P2++mvsB t j++x1)):=own_eq hown9 rfl (by rw[bytesV_append (P2++mvsB t j),HBY.out])
        obtain⟨V9,c9,rfl,_,_,_⟩:=own_rd own9
        clear hown9 hgrow9 hat9 hat9' ownk1 ownk hrnk rys PTk nb1 q0
        by_cases hnx0:nx=0
        ·obtain⟨hBy,hcy0⟩:=hy0 hnx0
         have hx0:x=[]:=List.eq_nil_of_length_eq_zero (by rw[HNX.out];exact hnx0)
         have own10:w9.ownsRow W.heap.size 5 1 (.slice V9 (l3+1) c9) (l3+1) (bytesV (P2++mvsB t (j+1))):=by
          have e:P2++mvsB t (j+1)=P2++mvsB t j++x1:=by
           rw[mvsB_succ,HMA.out,hx0]
           simp only[Xj,List.append_nil]
          rw[e];exact own9
         rw[hBy,hcy0,hnx0]
         have HI0:=J0 hi0
         clear hnx0 hBy hcy0 hx0 hi0
         go_wp2_with (at_builtin;refine wpList_append_nil rfl _ _ 44 rfl W.heap.size 5 i0 1 Tryz.underlying44 hi _ (l3+1) _ rfl own9 rfl ?_)
         go_roundw
         case rel=>exact⟨j+1,l3+1,by omega,by go_num,by omega,by rw[if_neg HI0.out];exact own10,HB9,hrn9,PT9,hsep9⟩
         case measure=>simp[intOf];omega
        ·obtain⟨ay,hay,hcy9⟩:=ry9.rd.at_bytes (by rw[HNX.out];omega)
         subst hay
         go_wp2_with (at_builtin;refine wpList_append_own_at _ rfl _ _ 44 rfl W.heap.size 5 i0 (.int .u8 0) 1 1 Tryz.underlying44 hi hz0 hz1 hz2 rfl (by decide) _ _ _ rfl own9 ay nx cy (bytesV x) rfl ?c0 ?c1 ?c2 ?c3 ?c4 ?c5 ?_)
         case c0=>rw[bytesV_len,HNX.out];omega
         case c1=>exact hcy9
         case c2=>exact bytesV_one _
         case c3=>simp only[maxLen];omega
         case c4=>omega
         case c5=>exact HB9.size
         intro v10 w10 hown10 hgrow10 _ hat10
         have hrn10:=hrn9.own hgrow10 hat10
         obtain⟨PT10,hsep10⟩:=box_own PT9 hsep9 hgrow10 hat10
         have HB10:=HB9.grown hgrow10 HB9.size (fun q hq=>own_base own9 q hq)
         have own10:w10.ownsRow W.heap.size 5 1 v10 (l3+1+nx) (bytesV (P2++mvsB t (j+1))):=own_eq hown10 rfl (by
          rw[mvsB_succ,HMA.out,←bytesV_append]
          congr 1
          simp only[Xj])
         obtain⟨V10,c10,rfl,_,_,_⟩:=own_rd own10
         have HI0:=J0 hi0
         clear own9 hown10 hgrow10 hat10 hcy9 ry9 hrn9 PT9 hsep9 HB9 hi0
         go_wp2
         go_roundw
         case rel=>exact⟨j+1,l3+1+nx,by omega,by go_num,by omega,by rw[if_neg HI0.out];exact own10,HB10,hrn10,PT10,hsep10⟩
         case measure=>simp[intOf];omega
      ·obtain rfl:j=nm:=by omega
       have hfin:P2++(if i=0 then[] else mvsB t j)=P1++tabsB y (i+1):=by
        rw[tabsB_succ,tabAtB,HT.out,←HP2.out]
        show _=P1++(tabsB y i++tabB i t)
        rw[tabB,HNM.out]
        simp only[Xj]
       rw[hfin] at own3
       clear hfin
       go_wp2
       go_roundw
       case rel=>exact⟨i+1,l3,by omega,by go_num,by have:=HMF.out;omega,own3,HB3,hrn3⟩
       case measure=>simp[intOf];omega
    ·obtain rfl:i=m:=by omega
     have htl:y.ts.length=i:=by rw[←HTB.out,Kz];exact HNL.out
     have hfin:P1++tabsB y i=leL (n:Int) 1++tysB L (k+1):=by
      rw[tysB_succ HY.out,←HP1.out,tyB,htl]
      simp only[Xj]
     rw[hfin] at own2
     have hlen2:Hid ((leL (n:Int) 1++tysB L (k+1)).length=l2):=J0 (by have:=own2.1;rw[bytesV_len] at this;omega)
     clear hfin htl
     go_wp2
     go_roundw
     case rel=>exact⟨k+1,l2,by omega,by go_num,hlen2,own2,HB2,hrn2⟩
     case measure=>simp[intOf];omega
  ·obtain rfl:k=n:=by omega
   have hcat:leL (k:Int) 1++tysB L k=catB L:=by rw[catB,HN.out]
   rw[hcat] at hown hl
   have hzz:l=z:=by rw[←hl.out,HZ.out]
   subst hzz
   obtain⟨B',c',e,_,_,r⟩:=own_rd hown
   cases e
   clear hown
   go_wp2
   go_ret
   exact⟨V,vc,rfl,r,HB⟩
theorem le_one {n:Nat} (h:n<256):leL (n:Int) 1=[UInt8.ofNat ((n:Int)).toNat]:=by
 simp only[leL,List.range_one,List.map_cons,List.map_nil,byteZ]
 congr 2
 simp
 omega
theorem rflds_m (A:Option Addr) (c m:Nat) (fs:List Fd) (hm:fs.length=m) (hl:m≤9223372036854775807) (hs:FdS fs) (p:ByteArray) (hp:strL (fldB fs)=p) (w:World) (hA:Rd w A (cellsF fs)):
 Calls Tryz.prog 84 #[.slice A m c] w fun e w'=>e=.returned (.string p)∧Below w.heap.size w w':=by
 subst hm
 obtain⟨x,hx⟩:∃x,wrL fs=x:=⟨_,rfl⟩
 obtain⟨sx,hsx⟩:∃s,strL x=s:=⟨_,rfl⟩
 obtain⟨q,hq⟩:∃q,wrE fs=q:=⟨_,rfl⟩
 obtain⟨n,hn⟩:∃n,sx.size=n:=⟨_,rfl⟩
 have hn2:x.length=n:=by rw[←hn,←hsx,strL_size]
 have hnb:n≤289:=by have:=wrL_len fs;rw[hx] at this;omega
 obtain⟨px,hpx⟩:∃s,strL (putL (n:Int) 2)=s:=⟨_,rfl⟩
 have hput:putL (n:Int) 2=leL (n:Int) 2:=by rw[putL,if_pos (fits_two (by omega))]
 have hfin:px++sx=p:=by rw[←hp,fldB,hx,hn2,←hpx,hput,←hsx,strL_append]
 have hps:px.size=2:=by rw[←hpx,strL_size,hput,leL_length]
 have hwn:IntKind.u64.wrap (sx.size:Int)=(n:Int):=by rw[hn];exact IntWalk.u64_in _ (by omega)
 have z1:¬9223372036854775807<px.size+n:=by omega
 have z2:¬9223372036854775807<px.size+sx.size:=by omega
 have henc:=rFEncode_calls A c fs w hA hl hs
 rw[hx,hsx,hq] at henc
 have HEN:=J0 henc;have HPX:=J0 hpx;have HF:=J0 hfin;have HN:=J0 hn
 clear hx hsx hq hn2 hput hfin hpx hps henc hp
 go_enter Tryz.func84,Tryz.ntmps84
 go_upto_region 2 with (go_at_call 123;refine HEN.out.mono ?_;rintro e w1 ⟨rfl,HB⟩)
 go_wp2_with (go_at_call 83;refine(rPut_calls (n:Int) 2 (by omega) (by omega) (by omega) _).mono ?_;rw[HPX.out];rintro e w2 ⟨rfl,hb2⟩)
 go_ret
 exact⟨by rw[HF.out];rfl,HB.trans (hb2.mono HB.size)⟩
end
end Go.Proofs.YteembinfgbapgaaGreat
