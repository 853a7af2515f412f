/- Merged out of: Tk Tm To. -/
import Derived.Test.YteembinfgbapgaaGreatC00
import Derived.Test.YteembinfgbapgaaGreatC33
import Derived.Test.YteembinfgbapgaaGreatC18
set_option linter.unusedSimpArgs false
set_option linter.unusedVariables false
set_option maxRecDepth 100000
set_option maxHeartbeats 8000000
namespace Go.Proofs.YteembinfgbapgaaGreat
section
open Go.RowKit Go.Lib Go.Maps
theorem len_cat {W:World} {mp:Nat} {es:List MapEntry} {clock:Nat} (hb:MBk W mp es clock):(Builtin.len_ #[78] 3 #[.map (some mp)]).run Tryz.prog W=.ok (.int .i64 (es.length:Nat)) W:=by
 simp[Builtin.len_,run_underlying Tryz.underlying78,MapKept.run_getObj_map hb,goInt]
theorem Define_form {W:World} {cp mp:Nat} {E:List En} {es:List MapEntry} {clock:Nat} (h:CatIs 89 80 W cp mp E es clock) {nm:ByteArray} (hn:nm.size≤maxLen) (A:Option Addr) (cA m:Nat) (fs:List Fd) (hm:fs.length=m) (hl:m≤9223372036854775807) (hcA:m≤cA) (hA:Rd W A (cellsF fs)) (hbad:nameB nm=false∨rightF fs=false):
 Calls Tryz.prog 28 #[.pointer (some ⟨cp,0,none⟩),.string nm,.slice A m cA] W fun e w'=>e=.returned (.int .i64 60)∧Below W.heap.size W w':=by
 obtain⟨x,hx⟩:∃x,nameB nm=x:=⟨_,rfl⟩
 obtain⟨y,hy⟩:∃y,rightF fs=y:=⟨_,rfl⟩
 rw[hx,hy] at hbad
 have HNM:=J0 hx;have HR:=J0 hy;have HM:=J0 hm
 have HB:=Jy W.heap.size W
 clear hx hy hm h
 cases x
 ·clear hbad
  go_enter Tryz.func28,Tryz.ntmps28
  go_wp2_with (first|(go_at_call 50;refine(Name_is nm _ HNM.out _).mono ?_;rintro e W1 ⟨rfl,hb⟩;replace HB:=HB.trans (hb.mono HB.size);clear hb))
  go_ret
  exact⟨rfl,HB⟩
 ·obtain rfl:y=false:=by rcases hbad with h|h <;> simp_all
  clear hbad
  go_enter Tryz.func28,Tryz.ntmps28
  go_wp2_with (first|(go_at_call 50;refine(Name_is nm _ HNM.out _).mono ?_;rintro e W1 ⟨rfl,hb⟩;replace HB:=HB.trans (hb.mono HB.size);clear hb)|(go_at_call 62;refine(Right_m A cA m fs HM.out _ HR.out _ (hA.below HB) hl).mono ?_;rintro e W2 ⟨rfl,hb⟩;replace HB:=HB.trans (hb.mono HB.size);clear hb))
  go_ret
  exact⟨rfl,HB⟩
theorem Define_there {W:World} {cp mp:Nat} {E:List En} {es:List MapEntry} {clock:Nat} (h:CatIs 89 80 W cp mp E es clock) {nm:ByteArray} (hn:nm.size≤maxLen) (A:Option Addr) (cA m:Nat) (fs:List Fd) (hm:fs.length=m) (hl:m≤9223372036854775807) (hcA:m≤cA) (hA:Rd W A (cellsF fs)) (hx:nameB nm=true) (hy:rightF fs=true) (hbad:findE E nm≠none∨16≤E.length):
 Calls Tryz.prog 28 #[.pointer (some ⟨cp,0,none⟩),.string nm,.slice A m cA] W fun e w'=>e=.returned (.int .i64 91)∧Below W.heap.size W w':=by
 have HNM:=J0 hx;have HR:=J0 hy;have HM:=J0 hm
 have HB:=Jy W.heap.size W
 clear hx hy hm
 have hel:es.length=E.length:=by have:=congrArg List.length h.prs;rw[prs_len,Kz] at this;exact this
 have HH:=J0 h
 cases hf:findE E nm with
 |some d=>
  have hlk:∀W',Below W.heap.size W W'→(Instr.lookup 78 (.map (some mp)) (.string nm) false).run Tryz.prog W'=.ok (.pointer (some ⟨d.p,0,none⟩)) W':=fun W' hb=>by have:=look_sort (HH.out.below hb) hn;rw[hf] at this;exact this
  have hb0:∀W',Below W.heap.size W W'→W'.cell? ⟨cp,0,none⟩=some (.map (some mp)):=fun W' hb=>(HH.out.below hb).box.f1.1
  obtain⟨p,hp⟩:∃p,d.p=p:=⟨_,rfl⟩
  simp only[hp] at hlk
  have HLK:=J0 hlk;have HB0:=J0 hb0
  clear hbad hf hp h hlk hb0 hel
  go_enter Tryz.func28,Tryz.ntmps28
  go_upto_region 3 with (first|(go_at_call 50;refine(Name_is nm _ HNM.out _).mono ?_;rintro e W1 ⟨rfl,hb⟩;replace HB:=HB.trans (hb.mono HB.size);clear hb)|(go_at_call 62;refine(Right_m A cA m fs HM.out _ HR.out _ (hA.below HB) hl).mono ?_;rintro e W2 ⟨rfl,hb⟩;replace HB:=HB.trans (hb.mono HB.size);clear hb))
  have k1:=HLK.out _ HB
  have k2:=HB0.out _ HB
  go_wp2
  go_ret
  exact⟨rfl,HB⟩
 |none=>
  have h16:16≤E.length:=by
   rcases hbad with h1|h1
   ·exact absurd hf h1
   ·exact h1
  have hn16:16≤es.length:=by omega
  have hlk:∀W',Below W.heap.size W W'→(Instr.lookup 78 (.map (some mp)) (.string nm) false).run Tryz.prog W'=.ok (.pointer none) W':=fun W' hb=>by have:=look_sort (HH.out.below hb) hn;rw[hf] at this;exact this
  have hb0:∀W',Below W.heap.size W W'→W'.cell? ⟨cp,0,none⟩=some (.map (some mp)):=fun W' hb=>(HH.out.below hb).box.f1.1
  have hln:∀W',Below W.heap.size W W'→(Builtin.len_ #[78] 3 #[.map (some mp)]).run Tryz.prog W'=.ok (.int .i64 (es.length:Nat)) W':=fun W' hb=>len_cat (HH.out.below hb).map
  have HLK:=J0 hlk;have HB0:=J0 hb0;have HLN:=J0 hln
  have e16:(16:Int)≤(es.length:Int):=by omega
  clear hbad hf h hlk hb0 hel h16 hln
  go_enter Tryz.func28,Tryz.ntmps28
  go_upto_region 3 with (first|(go_at_call 50;refine(Name_is nm _ HNM.out _).mono ?_;rintro e W1 ⟨rfl,hb⟩;replace HB:=HB.trans (hb.mono HB.size);clear hb)|(go_at_call 62;refine(Right_m A cA m fs HM.out _ HR.out _ (hA.below HB) hl).mono ?_;rintro e W2 ⟨rfl,hb⟩;replace HB:=HB.trans (hb.mono HB.size);clear hb))
  have k1:=HLK.out _ HB
  have k2:=HB0.out _ HB
  have k3:=HLN.out _ HB
  go_wp2
  go_ret
  exact⟨rfl,HB⟩
theorem key_new {ST CT:TypeId} {W:World} {cp mp:Nat} {E:List En} {es:List MapEntry} {clock:Nat} (h:CatIs ST CT W cp mp E es clock) {nm:ByteArray} (hf:findE E nm=none):∀x∈es,x.key≠.string nm:=by
 intro x hx e
 obtain⟨i,hi⟩:=Qq.1 hx
 obtain⟨d,hd,e1,_⟩:=nodup_of_prs h.prs hi
 rw[e1] at e
 exact findE_none hf d (J7 hd) (by injection e)
theorem Only.refl (r2 r3:Option Nat) (w:World):Only r2 r3 w w:=⟨rfl,rfl,rfl,J9 _,fun _ _ _ _=>rfl⟩
theorem Only.drew {r2 r3:Option Nat} {w W:World} (h:Only r2 r3 w W):Only r2 r3 w W.drew:=⟨h.os,h.tape,h.output,h.size,h.block⟩
theorem Define_ok {W:World} {cp mp:Nat} {E:List En} {es:List MapEntry} {clock:Nat} (h:CatIs 89 80 W cp mp E es clock) {nm:ByteArray} (hn:nm.size≤maxLen) (A:Option Addr) (cA m:Nat) (fs:List Fd) (hm:fs.length=m) (hl:m≤9223372036854775807) (hcA:m≤cA) (hA:Rd W A (cellsF fs)) (hx:nameB nm=true) (hy:rightF fs=true) (hf:findE E nm=none) (h16:E.length<16):
 Calls Tryz.prog 28 #[.pointer (some ⟨cp,0,none⟩),.string nm,.slice A m cA] W fun e w'=>e=.returned (.int .i64 0)∧∃d es',d.y=⟨nm,1,[keepT fs]⟩∧CatIs 89 80 w' cp mp (E++[d]) es' (clock+1)∧CatFr cp mp E (E++[d]) W w':=by
 have HNM:=J0 hx;have HR:=J0 hy;have HM:=J0 hm;have HF:=J0 hf
 have HB:=Jy W.heap.size W
 have hel:es.length=E.length:=by have:=congrArg List.length h.prs;rw[prs_len,Kz] at this;exact this
 have HH:=J0 h
 have hn16:es.length<16:=by omega
 have e16:(es.length:Int)<(16:Int):=by omega
 have hcm:=h.cpmp
 clear hx hy hm hel hf h
 go_enter Tryz.func28,Tryz.ntmps28
 go_upto_region 3 with (first|(go_at_call 50;refine(Name_is nm _ HNM.out _).mono ?_;rintro e W1 ⟨rfl,hb⟩;replace HB:=HB.trans (hb.mono HB.size);clear hb)|(go_at_call 62;refine(Right_m A cA m fs HM.out _ HR.out _ (hA.below HB) hl).mono ?_;rintro e W2 ⟨rfl,hb⟩;replace HB:=HB.trans (hb.mono HB.size);clear hb))
 have h2:=HH.out.below HB
 have k1:=look_sort h2 hn
 rw[HF.out] at k1
 have k2:=h2.box.f1.1
 have k3:=len_cat h2.map
 have H2:=J0 h2
 clear h2
 go_upto_region 5 with fail
 have hall:∀W',Only (some mp) none W2 W'→W'.cell? ⟨cp,0,none⟩=some (.map (some mp))∧Only (some mp) none W2 W':=fun W' hO=>⟨(H2.out.box.only hO (by simpa using hcm) (by simp)).f1.1,hO⟩
 have hAd:Rd W2.drew A (cellsF fs):=hA.below HB.drew
 obtain⟨lk,hlk⟩:=key_string (P:=Tryz.prog) Tryz.underlying9 hn
 refine wp_region_noPanic ?_
 refine wp_region_held_drew (S:=(fun W'=>W'.cell? ⟨cp,0,none⟩=some (.map (some mp))∧Only (some mp) none W2 W')) (by kernel_rfl) ?_ (fun hHeld=>?_)
 ·(refine hall _ ?_;repeat (first|assumption|exact Only.refl _ _ _|apply Only.drew|refine Only.seq ?_ (below_new _)))
 refine wpAnyH_take (i:=0) (oi:=_) (v:=?_) rfl (by kernel_rfl) (by kernel_rfl) (by kernel_rfl) (fun _ _ _ h=>h) (Or.inl ⟨by rfl,?_⟩) hHeld ?_
 rotate_left
 ·(intro w hSw;(try dsimp only at hSw);go_simp;first|done|with_reducible rfl)
 try simp only[Act.put,J1,J3,J2,Ky,K9,Jz]
 refine wpAnyH_take (i:=1) (oi:=_) (v:=?_) rfl (by kernel_rfl) (by kernel_rfl) (by kernel_rfl) (fun _ _ _ h=>h) (Or.inl ⟨by rfl,?_⟩) hHeld ?_
 rotate_left
 ·(intro w hSw;(try dsimp only at hSw);go_simp;first|done|with_reducible rfl)
 try simp only[Act.put,J1,J3,J2,Ky,K9,Jz]
 refine wpAnyH_take (i:=2) (oi:=_) (v:=?_) rfl (by kernel_rfl) (by kernel_rfl) (by kernel_rfl) (fun _ _ _ h=>h) (Or.inl ⟨by rfl,?_⟩) hHeld ?_
 rotate_left
 ·(intro w hSw;(try dsimp only at hSw);go_simp;first|done|with_reducible rfl)
 try simp only[Act.put,J1,J3,J2,Ky,K9,Jz]
 refine wpAnyH_take (i:=3) (oi:=_) (v:=?_) rfl (by kernel_rfl) (by kernel_rfl) (by kernel_rfl) (fun _ _ _ h=>h) (Or.inl ⟨by rfl,?_⟩) hHeld ?_
 rotate_left
 ·(intro w hSw;(try dsimp only at hSw);go_simp;first|done|with_reducible rfl)
 try simp only[Act.put,J1,J3,J2,Ky,K9,Jz]
 refine wpAnyH_take (i:=4) (oi:=_) (v:=?_) rfl (by kernel_rfl) (by kernel_rfl) (by kernel_rfl) (fun _ _ _ h=>h) (Or.inl ⟨by rfl,?_⟩) hHeld ?_
 rotate_left
 ·(intro w hSw;(try dsimp only at hSw);go_simp;first|done|with_reducible rfl)
 try simp only[Act.put,J1,J3,J2,Ky,K9,Jz]
 refine wpAnyH_take (i:=5) (oi:=_) (v:=?_) rfl (by kernel_rfl) (by kernel_rfl) (by kernel_rfl) (fun _ _ _ h=>h) (Or.inl ⟨by rfl,?_⟩) hHeld ?_
 rotate_left
 ·(intro w hSw;(try dsimp only at hSw);go_simp;first|done|with_reducible rfl)
 try simp only[Act.put,J1,J3,J2,Ky,K9,Jz]
 refine wpAnyH_ready (rs:=[6]) (by kernel_rfl) (by simp) ?_
 refine AllReadyH.cons (o:=_) rfl (fun K hK=>?_) AllReadyH.nil
 go_simp
 (go_at_call 45;refine(TSame_cap A cA m fs HM.out HR.out _ hAd hl hcA).mono ?_;rintro e W3 ⟨X0,z0,v2,v3,b1,b2,rfl,hd0,hb1,hb12,hb2,R1,hBl,own2,lt2,own3,hbS⟩;obtain⟨_,HOx⟩:=hHeld;have HO3:=Only.seq HOx hbS;obtain⟨X1,z1,rfl,u1,u2,r1⟩:=own_rd own2;obtain⟨X2,z2,rfl,u4,u5,r2⟩:=own_rd own3)
 try (go_wp2_with fail)
 refine hK.out _ _ ?_ (fun hHeld=>?_)
 ·(try dsimp only);(refine hall _ ?_;repeat (first|assumption|exact Only.refl _ _ _|apply Only.drew|refine Only.seq ?_ (below_new _)))
 clear hK K
 try simp only[Act.put,J1,J3,J2,Ky,K9,Jz]
 refine wpAnyH_ready (rs:=[7]) (by kernel_rfl) (by simp) ?_
 refine AllReadyH.cons (o:=_) rfl (fun K hK=>?_) AllReadyH.nil
 go_simp
 refine hK.out _ _ ?_ (fun hHeld=>?_)
 ·(try dsimp only);(refine hall _ ?_;repeat (first|assumption|exact Only.refl _ _ _|apply Only.drew|refine Only.seq ?_ (below_new _)))
 clear hK K
 try simp only[Act.put,J1,J3,J2,Ky,K9,Jz]
 refine wpAnyH_take (i:=8) (oi:=_) (v:=?_) rfl (by kernel_rfl) (by kernel_rfl) (by kernel_rfl) (fun _ _ _ h=>h) (Or.inl ⟨by rfl,?_⟩) hHeld ?_
 rotate_left
 ·(intro w hSw;(try dsimp only at hSw);go_simp;first|done|with_reducible rfl)
 try simp only[Act.put,J1,J3,J2,Ky,K9,Jz]
 refine wpAnyH_ready (rs:=[9]) (by kernel_rfl) (by simp) ?_
 refine AllReadyH.cons (o:=_) rfl (fun K hK=>?_) AllReadyH.nil
 go_simp
 refine hK.out _ _ ?_ (fun hHeld=>?_)
 ·(try dsimp only);(refine hall _ ?_;repeat (first|assumption|exact Only.refl _ _ _|apply Only.drew|refine Only.seq ?_ (below_new _)))
 clear hK K
 try simp only[Act.put,J1,J3,J2,Ky,K9,Jz]
 refine wpAnyH_ready (rs:=[10]) (by kernel_rfl) (by simp) ?_
 refine AllReadyH.cons (o:=_) rfl (fun K hK=>?_) AllReadyH.nil
 have hbS2:Below W2.heap.size W2 W3:=Below.undrewS hbS
 have hb5:Below W2.heap.size W2 ((W3.alloc (.cells #[.slice X0 m z0,.slice X1 m z1,.slice X2 m z2] 96)).alloc (.cells #[.int .i64 1,.slice (some ⟨W3.heap.size,0,none⟩) 1 1] 89)):=below_seq hbS2 (below_seq (below_new _) (below_new _))
 obtain⟨W5,hrun,hM5,hG5,hZ5⟩:=map_insert (e:=86) (string_keyed Tryz.underlying9) Tryz.underlying78 (H2.out.map.below hb5) (H2.out.keys Tryz.underlying9) (val:=.pointer (some ⟨W3.heap.size+1,0,none⟩)) hlk (key_new H2.out HF.out)
 obtain⟨_,HOy⟩:=hHeld
 have HO5:=Only.grown HOy hG5 (.inl rfl)
 go_simp
 refine hK.out _ _ ?_ (fun hHeld=>?_)
 ·(try dsimp only);(refine hall _ ?_;repeat (first|assumption|exact Only.refl _ _ _|apply Only.drew|refine Only.seq ?_ (below_new _)))
 clear hK K
 try simp only[Act.put,J1,J3,J2,Ky,K9,Jz]
 refine wpAnyH_done (by kernel_rfl) ?_ _
 refine NoPanic.normal ?_
 go_wp2_with fail
 go_ret
 have hk:=keepT_right HR.out
 have hW3:=hbS2.size
 obtain⟨x,hxd⟩:∃x:TabV,x=⟨keepT fs,X0,z0,X1,z1,X2,z2⟩:=⟨_,rfl⟩
 have hcx:x.cells=[.slice X0 m z0,.slice X1 m z1,.slice X2 m z2]:=by
  rw[hxd,hk]
  show[Value.slice X0 fs.length z0,.slice X1 fs.length z1,.slice X2 (kM fs.length).length z2]=_
  rw[kM_length,HM.out]
 have hrow0:(W3.alloc (.cells #[.slice X0 m z0,.slice X1 m z1,.slice X2 m z2] 96)).ownsRow 0 96 3 (.slice (some ⟨W3.heap.size,0,none⟩) 1 1) 1 [.slice X0 m z0,.slice X1 m z1,.slice X2 m z2]:=
  ⟨rfl,.inr ⟨_,1,#[.slice X0 m z0,.slice X1 m z1,.slice X2 m z2],rfl,X8 _,World.alloc_heap_new _ _,J9 _,by decide,rfl,rfl⟩⟩
 have hrow:=own_below hrow0 (below_new (.cells #[.int .i64 1,.slice (some ⟨W3.heap.size,0,none⟩) 1 1] 89))
 have hbox:=OBox.new (W3.alloc (.cells #[.slice X0 m z0,.slice X1 m z1,.slice X2 m z2] 96)) [.int .i64 1,.slice (some ⟨W3.heap.size,0,none⟩) 1 1] 89
 rw[Jq] at hbox
 obtain⟨d,hdd⟩:∃d:En,d=⟨⟨nm,1,[keepT fs]⟩,W3.heap.size+1,.slice (some ⟨W3.heap.size,0,none⟩) 1 1,[x]⟩:=⟨_,rfl⟩
 have hhas:∀g,d.has g→g=W3.heap.size+1∨g=W3.heap.size:=fun g hg=>by
  rw[hdd] at hg
  rcases hg with h1|h1
  ·exact .inl h1
  ·have h2:some W3.heap.size=some g:=h1
   exact .inr (Jj h2).symm
 have hdI:d.Is 89 ((W3.alloc (.cells #[.slice X0 m z0,.slice X1 m z1,.slice X2 m z2] 96)).alloc (.cells #[.int .i64 1,.slice (some ⟨W3.heap.size,0,none⟩) 1 1] 89)):=by
  rw[hdd]
  refine⟨hbox,?_,by rw[hxd];rfl,fun g hg=>?_⟩
  rotate_left
  ·have h2:some W3.heap.size=some g:=hg
   cases h2
   exact AllC.of (((below_new (.cells #[.int .i64 1,.slice (some ⟨W3.heap.size,0,none⟩) 1 1] 89)).block _ (by simp)).trans (World.alloc_heap_new _ _)) (by intro u hu;simp at hu;rcases hu with rfl|rfl|rfl <;> exact⟨_,_,_,rfl⟩)
  show World.ownsRow _ 0 _ 3 (.slice (some ⟨W3.heap.size,0,none⟩) 1 1) 1 (cellsT [x])
  have e:cellsT [x]=x.cells:=by simp[cellsT]
  rw[e,hcx]
  exact hrow
 have b2:=below_seq (below_new (w:=W3) (.cells #[.slice X0 m z0,.slice X1 m z1,.slice X2 m z2] 96)) (below_new (.cells #[.int .i64 1,.slice (some ⟨W3.heap.size,0,none⟩) 1 1] 89))
 have hno:∀g,W2.heap.size≤g∧g<W3.heap.size→W2.heap.size≤g∧¬d.has g:=fun g hg=>⟨hg.1,fun hc=>by have:=hhas g hc;omega⟩
 have hb1':W2.heap.size≤b1:=hb1
 have q0:RdP (fun g=>W2.heap.size≤g∧g<W3.heap.size) W3 X0 (cellsF fs):=RdP.mk R1.rd (fun ad e=>by have:=hBl ad e;exact⟨this.1,by omega⟩)
 have q1:RdP (fun g=>W2.heap.size≤g∧g<W3.heap.size) W3 X1 (cellsF fs):=own_P own2 (fun g hg=>⟨by have:=own_base own2 g hg;omega,own_lt own2 g hg⟩)
 have q2:RdP (fun g=>W2.heap.size≤g∧g<W3.heap.size) W3 X2 (cellsM (kM m)):=own_P own3 (fun g hg=>⟨by have:=own_base own3 g hg;omega,own_lt own3 g hg⟩)
 have hxI:x.Is (fun g=>W2.heap.size≤g∧¬d.has g) ((W3.alloc (.cells #[.slice X0 m z0,.slice X1 m z1,.slice X2 m z2] 96)).alloc (.cells #[.int .i64 1,.slice (some ⟨W3.heap.size,0,none⟩) 1 1] 89)):=by
  rw[hxd]
  refine⟨?_,?_,?_,?_,?_⟩
  ·show RdP _ _ X0 (cellsF (keepT fs).o);rw[hk];exact(q0.up b2).mono hno
  ·show RdP _ _ X1 (cellsF (keepT fs).n);rw[hk];exact(q1.up b2).mono hno
  ·show RdP _ _ X2 (cellsM (keepT fs).m);rw[hk];show RdP _ _ X2 (cellsM (kM fs.length));rw[HM.out];exact(q2.up b2).mono hno
  ·show(keepT fs).o.length≤z0;rw[hk];show fs.length≤z0;rw[HM.out];exact hd0
  ·show(keepT fs).n.length≤z1;rw[hk];show fs.length≤z1;rw[HM.out];exact u1
 have hnew:∀g,d.has g→W2.heap.size≤g:=fun g hg=>by have:=hhas g hg;omega
 have hdy:d.y=⟨nm,1,[keepT fs]⟩:=by rw[hdd]
 have hdp:d.p=W3.heap.size+1:=by rw[hdd]
 have hdx:∀y∈d.xs,y=x:=fun y hy=>by rw[hdd] at hy;simpa using hy
 have hM6:MBk W5 mp (es++[ent (.string d.y.s) (.pointer (some ⟨d.p,0,none⟩)) clock]) (clock+1):=by rw[hdy,hdp];exact hM5
 have hins:=H2.out.insert hb5 hdI hnew (fun y hy=>by rw[hdx y hy];exact hxI) hM6 (fun g h1 h2=>hG5.block g h1 (by intro e;exact h2 (Jj e))) (fun e he=>by rw[hdy];exact findE_none HF.out e he) (by rw[hdy];exact hn)
 refine⟨by rfl,d,_,hdy,hins,CatFr.after HB ⟨HO5.os,HO5.tape,HO5.output,HO5.size,fun g hg hu=>HO5.block g hg (by intro e;exact hu.1 (Jj e)) (by simp),fun g hg hu=>⟨hu.1,fun e he hh=>?_⟩⟩⟩
 rcases X7.1 he with h1|h1
 ·exact hu.2 e h1 hh
 ·simp at h1;subst h1
  have:=hnew g hh
  omega
theorem infoTb:(Tryz.prog.info? 96).map (fun i=>(i.zero,i.size,i.bytes))=some (some (.agg #[.slice none 0 0,.slice none 0 0,.slice none 0 0]),3,72):=by kernel_rfl
theorem own_ne_box {w:World} {base n c g b:Nat} {e T:TypeId} {K:Nat} {o:Nat} {cs xs:List Value} (h:w.ownsRow base e K (.slice (some ⟨g,o,none⟩) n c) n xs) (hb:OBox w b cs T) (hT:e≠T):g≠b:=by
 rintro rfl
 rcases h.2 with ⟨h1,_⟩|⟨g',cap,cur,h1,_,h2,_⟩
 ·cases h1
 ·injection h1 with h3
  injection h3 with h3
  injection h3 with h3
  subst h3
  unfold OBox at hb
  rw[hb] at h2
  injection h2 with h2
  injection h2 with _ h2
  exact hT h2.symm
theorem OBox.f2 {w:World} {b:Nat} {x y:Value} {T:TypeId} (h:OBox w b [x,y] T):w.cell? ⟨b,0,none⟩=some x∧w.cell? ⟨b,1,none⟩=some y∧w.frozen? ⟨b,0,none⟩=false∧w.frozen? ⟨b,1,none⟩=false:=by
 have hf:∀j,w.frozen? ⟨b,j,none⟩=false:=fun j=>by
  unfold OBox at h
  simp[World.frozen?,h]
 exact⟨h.cell rfl,h.cell rfl,hf 0,hf 1⟩
theorem Change_none {W:World} {cp mp:Nat} {E:List En} {es:List MapEntry} {clock:Nat} (h:CatIs 89 80 W cp mp E es clock) {nm:ByteArray} (hn:nm.size≤maxLen) (hf:findE E nm=none) (K:Option Addr) (cK nc:Nat):
 Calls Tryz.prog 29 #[.pointer (some ⟨cp,0,none⟩),.string nm,.slice K nc cK] W fun e w'=>e=.returned (.tuple #[.int .i64 0,.int .i64 90])∧Below W.heap.size W w':=by
 have hlk:=look_sort h hn
 rw[hf] at hlk
 obtain⟨b0,_⟩:=h.box.f1
 go_enter Tryz.func29,Tryz.ntmps29
 go_wp2
 refine bodyPost_ret (v:=.tuple #[.int .i64 0,.int .i64 90]) (by simp[results,Tryz.results29,go_sem, *];done) rfl ⟨rfl,Jy _ _⟩
theorem Change_full {W:World} {cp mp:Nat} {E:List En} {es:List MapEntry} {clock:Nat} (h:CatIs 89 80 W cp mp E es clock) {nm:ByteArray} (hn:nm.size≤maxLen) {d:En} (hf:findE E nm=some d) (hok:d.y.Ok) (h64:64≤d.y.top) (K:Option Addr) (cK nc:Nat):
 Calls Tryz.prog 29 #[.pointer (some ⟨cp,0,none⟩),.string nm,.slice K nc cK] W fun e w'=>e=.returned (.tuple #[.int .i64 0,.int .i64 91])∧Below W.heap.size W w':=by
 have hlk:=look_sort h hn
 rw[hf] at hlk
 obtain⟨b0,_⟩:=h.box.f1
 have hd:=h.ents d (findE_mem hf).1
 obtain⟨g,c,n,ev,_,hnl,hsum,htop,hpos,_⟩:=En.open hd hok
 have hbx:=hd.box
 rw[ev] at hbx
 obtain⟨old,hold⟩:∃x,d.y.old=x:=⟨_,rfl⟩
 obtain⟨top,ht⟩:∃x,d.y.top=x:=⟨_,rfl⟩
 rw[hold] at hbx hsum
 rw[ht] at hsum htop h64
 obtain⟨bp,hp⟩:∃p,d.p=p:=⟨_,rfl⟩
 simp only[hp] at hlk
 rw[hp] at hbx
 have HS:=J0 hsum
 have HB:=Jy W.heap.size W
 have e1:(64:Int)≤(top:Int):=by omega
 clear hf hd hnl hold ht hok hsum hp h ev
 go_enter Tryz.func29,Tryz.ntmps29
 go_wp2_with (go_at_call 33;refine(newest_m bp old n _ c top HS.out (by omega) _ (hbx.below HB)).mono ?_;rintro e w1 ⟨rfl,hb⟩;replace HB:=HB.trans (hb.mono HB.size);clear hb)
 refine bodyPost_ret (v:=.tuple #[.int .i64 0,.int .i64 91]) (by simp[results,Tryz.results29,go_sem, *];done) rfl ⟨rfl,HB⟩
theorem change_fin {W1 W4 W5:World} {cp mp:Nat} {E:List En} {es:List MapEntry} {clock:Nat} (h1:CatIs 89 80 W1 cp mp E es clock) {d:En} {i:Nat} (hi:E[i]?=some d) {old n c g bp:Nat} (hp:d.p=bp) (hev:d.v=.slice (some ⟨g,0,none⟩) n c) (hnl:d.xs.length=n) (hold:d.y.old=old)
 (hb4:Below W1.heap.size W1 W4) {p:Nat} {T:Tb} {V0 V1 V2:Option Addr} {w0 w1 w2 lo ln lm:Nat} (hlo:T.o.length=lo) (hln:T.n.length=ln) (hlm:T.m.length=lm) (hv0:lo≤w0) (hv1:ln≤w1)
 (r0:RdP (fun g=>W1.heap.size≤g∧g≠p) W4 V0 (cellsF T.o)) (r1:RdP (fun g=>W1.heap.size≤g∧g≠p) W4 V1 (cellsF T.n)) (r2:RdP (fun g=>W1.heap.size≤g∧g≠p) W4 V2 (cellsM T.m))
 {F5:Option Addr} {c5:Nat} (own6:W5.ownsRow 0 96 3 (.slice F5 (n+1) c5) (n+1) (cellsT d.xs++[.slice V0 lo w0,.slice V1 ln w1,.slice V2 lm w2])) (gr5:(W4.drew.alloc (.cells #[.slice V0 lo w0,.slice V1 ln w1,.slice V2 lm w2] 96)).grownBy W5 (some g))
 (hat5:(Value.slice F5 (n+1) c5).ownBlock=some g∨(Value.slice F5 (n+1) c5).ownBlock=some (W4.drew.alloc (.cells #[.slice V0 lo w0,.slice V1 ln w1,.slice V2 lm w2] 96)).heap.size) (hall6:∀g',(Value.slice F5 (n+1) c5).ownBlock=some g'→AllC SlV W5 g'):
 ∃d',d'.y=⟨d.y.s,d.y.old,d.y.ts++[T]⟩∧CatIs 89 80 (W5.setCell ⟨bp,1,none⟩ (.slice F5 (n+1) c5)) cp mp (E.set i d') es clock∧CatFr cp mp E (E.set i d') W1 (W5.setCell ⟨bp,1,none⟩ (.slice F5 (n+1) c5))∧OBox (W5.setCell ⟨bp,1,none⟩ (.slice F5 (n+1) c5)) bp [.int .i64 (old:Nat),.slice F5 (n+1) c5] 89:=by
 have hdE:=J7 hi
 have hd:=h1.ents d hdE
 have hfree:=h1.free d hdE
 have hbx:=hd.box
 rw[hev,hold,hp] at hbx
 have hrow:=hd.row
 rw[hev,hnl] at hrow
 have hgb:g≠bp:=own_ne_box hrow hbx (by decide)
 have hg1:g<W1.heap.size:=own_lt hrow g rfl
 have hbp1:=hbx.lt
 have hz4:=hb4.size
 have hasbp:d.has bp:=.inl hp.symm
 have hasg:d.has g:=.inr (by rw[hev];rfl)
 have hbm:bp≠mp:=by rintro rfl;exact hfree.2 hasbp
 have hgm:g≠mp:=by rintro rfl;exact hfree.2 hasg
 obtain⟨Wa,hWa⟩:∃Wa,W4.drew.alloc (.cells #[.slice V0 lo w0,.slice V1 ln w1,.slice V2 lm w2] 96)=Wa:=⟨_,rfl⟩
 have hba:Below W4.heap.size W4 Wa:=by rw[←hWa];exact((Jy _ _).drew).alloc (J9 _) _
 have hza:W4.heap.size<Wa.heap.size:=by rw[←hWa];simp
 rw[hWa] at gr5 hat5
 have hz5:=gr5.size
 obtain⟨v,hv⟩:∃v,Value.slice F5 (n+1) c5=v:=⟨_,rfl⟩
 rw[hv] at own6 hat5 hall6 ⊢
 have k5:∀k,k<W1.heap.size→k≠g→W5.heap[k]?=W1.heap[k]?:=fun k hk hn=>(gr5.block k (by omega) (by intro e;exact hn (Jj e))).trans ((hba.block k (by omega)).trans (hb4.block k hk))
 have k6:∀k,k≠bp→(W5.setCell ⟨bp,1,none⟩ v).heap[k]?=W5.heap[k]?:=fun k hn=>J5 _ _ _ _ hn
 have s6:(W5.setCell ⟨bp,1,none⟩ v).heap.size=W5.heap.size:=by simp[World.setCell]
 have hbx5:OBox W5 bp [.int .i64 (old:Nat),.slice (some ⟨g,0,none⟩) n c] 89:=(k5 bp hbp1 (fun e=>hgb e.symm)).trans hbx
 have hbx6:OBox (W5.setCell ⟨bp,1,none⟩ v) bp [.int .i64 (old:Nat),v] 89:=obox_set hbx5 1 v
 have hvlt:∀g',v.ownBlock=some g'→g'<W5.heap.size:=fun g' hg'=>own_lt own6 g' hg'
 have hvat:∀g',v.ownBlock=some g'→g'=g∨Wa.heap.size=g':=fun g' hg'=>by
  rcases hat5 with h|h
  ·rw[hg'] at h;exact .inl (Jj h)
  ·rw[hg'] at h;exact .inr (Jj h).symm
 have hvbp:∀g',v.ownBlock=some g'→g'≠bp:=fun g' hg'=>by
  rcases hvat g' hg' with rfl|h
  ·exact hgb
  ·omega
 obtain⟨X,hX⟩:∃X:TabV,X=⟨T,V0,w0,V1,w1,V2,w2⟩:=⟨_,rfl⟩
 obtain⟨d',hd'⟩:∃d':En,d'=⟨⟨d.y.s,d.y.old,d.y.ts++[T]⟩,bp,v,d.xs++[X]⟩:=⟨_,rfl⟩
 have hhas:∀g',d'.has g'→g'=bp∨v.ownBlock=some g':=fun g' hg'=>by
  rw[hd'] at hg'
  exact hg'
 have hnew:∀g',d'.has g'→d.has g'∨W1.heap.size≤g':=fun g' hg'=>by
  rcases hhas g' hg' with rfl|h
  ·exact .inl hasbp
  ·rcases hvat g' h with rfl|h
   ·exact .inl hasg
   ·exact .inr (by omega)
 have hXc:X.cells=[.slice V0 lo w0,.slice V1 ln w1,.slice V2 lm w2]:=by
  rw[hX]
  show[Value.slice V0 T.o.length w0,Value.slice V1 T.n.length w1,Value.slice V2 T.m.length w2]=_
  rw[hlo,hln,hlm]
 have row6:(W5.setCell ⟨bp,1,none⟩ v).ownsRow 0 96 3 v (n+1) (cellsT d.xs++[.slice V0 lo w0,.slice V1 ln w1,.slice V2 lm w2]):=own_keep own6 fun g' hg'=>k6 g' (hvbp g' hg')
 have hd'I:d'.Is 89 (W5.setCell ⟨bp,1,none⟩ v):=by
  rw[hd']
  refine⟨?_,?_,?_,fun g' hg'=>(hall6 g' hg').keep (k6 g' (hvbp g' hg'))⟩
  ·show OBox _ bp [.int .i64 (d.y.old:Nat),v] 89
   rw[hold];exact hbx6
  ·show World.ownsRow _ 0 _ 3 v (d.xs++[X]).length (cellsT (d.xs++[X]))
   rw[Qz,hnl,cellsT_append]
   have e:cellsT [X]=[.slice V0 lo w0,.slice V1 ln w1,.slice V2 lm w2]:=by simp[cellsT,hXc]
   rw[e]
   exact row6
  ·show(d.xs++[X]).map (·.t)=d.y.ts++[T]
   rw[List.map_append,hd.tabs,hX];rfl
 have hkeep:∀g',(W1.heap.size≤g'∧g'≠p)∧g'<W4.heap.size→(W5.setCell ⟨bp,1,none⟩ v).heap[g']?=W4.heap[g']?:=fun g' hg'=>(k6 g' (by omega)).trans ((gr5.block g' (by omega) (by intro e;have:=Jj e;omega)).trans (hba.block g' hg'.2))
 have hup:∀{A:Option Addr} {cs:List Value},RdP (fun g=>W1.heap.size≤g∧g≠p) W4 A cs→RdP (fun g=>W1.heap.size≤g∧¬d'.has g) (W5.setCell ⟨bp,1,none⟩ v) A cs:=fun hA=>(hA.lt.keep hkeep).mono fun g' hg'=>⟨hg'.1.1,fun hc=>by
  rcases hhas g' hc with rfl|h
  ·omega
  ·rcases hvat g' h with rfl|h <;> omega⟩
 have hXI:X.Is (fun g=>W1.heap.size≤g∧¬d'.has g) (W5.setCell ⟨bp,1,none⟩ v):=by
  rw[hX]
  exact⟨hup r0,hup r1,hup r2,by show T.o.length≤w0;omega,by show T.n.length≤w1;omega⟩
 have hblk:∀g',g'<W1.heap.size→¬d.has g'→(W5.setCell ⟨bp,1,none⟩ v).heap[g']?=W1.heap[g']?:=fun g' hl hn=>(k6 g' (by rintro rfl;exact hn hasbp)).trans (k5 g' hl (by rintro rfl;exact hn hasg))
 have hdy:d'.y=⟨d.y.s,d.y.old,d.y.ts++[T]⟩:=by rw[hd']
 have hdp:d'.p=d.p:=by rw[hd',hp]
 refine⟨d',hdy,?_,?_,hbx6⟩
 ·refine h1.turn hi (by rw[hdy]) hd'I hnew (fun x hx=>?_) ?_ h1.b1 h1.b2 ?_ (fun g' h2 h3 _=>hblk g' h2 h3)
  ·rw[hd'] at hx
   rcases X7.1 hx with h2|h2
   ·exact .inl h2
   ·simp at h2;subst h2;exact .inr hXI
  ·unfold MBk
   rw[hblk mp h1.mpLt hfree.2]
   exact h1.map
  ·rw[set_prs hi (by rw[hdy]) hdp]
   exact h1.prs
 ·have o4:W4.os=W1.os∧W4.tape=W1.tape∧W4.output=W1.output:=⟨hb4.os,hb4.tape,hb4.output⟩
  refine⟨gr5.os.trans (hba.os.trans hb4.os),gr5.tape.trans (hba.tape.trans hb4.tape),gr5.output.trans (hba.output.trans hb4.output),by rw[s6];omega,fun g' h2 hu=>hblk g' h2 (hu.2 d hdE),fun g' h2 hu=>⟨hu.1,fun e he hh=>?_⟩⟩
  obtain⟨j,hj⟩:=Qq.1 he
  by_cases hji:j=i
  ·subst hji
   rw[List.getElem?_set_self (by have:=(J6.1 hi).1;omega)] at hj
   obtain rfl:=Jj hj
   rcases hnew g' hh with h3|h3
   ·exact hu.2 d hdE h3
   ·omega
  ·rw[X6 (by omega)] at hj
   exact hu.2 e (J7 hj) hh
theorem Change_do {W:World} {cp mp:Nat} {E:List En} {es:List MapEntry} {clock:Nat} (h:CatIs 89 80 W cp mp E es clock) {nm:ByteArray} (hn:nm.size≤maxLen) (K:Option Addr) (cK nc:Nat) (cs:List (Ch×Value)) (hnc:cs.length=nc) (hk:nc≤9223372036854775807) (hw:∀p∈cs,ChW p) (hK:Rd W K (cellsC cs)) (ho:∀p∈cs,ChO W p) {d:En} (i:Nat) (hi:E[i]?=some d) (hf:findE E nm=some d) (hok:d.y.Ok) (h64:d.y.top<64) (T:Tb) (q:Int) (hT:allT d.y.last (cs.map (·.1))=(T,q)):
 Calls Tryz.prog 29 #[.pointer (some ⟨cp,0,none⟩),.string nm,.slice K nc cK] W fun e w'=>
  (q≠0∧e=.returned (.tuple #[.int .i64 0,.int .i64 q])∧Below W.heap.size W w')∨
  (q=0∧e=.returned (.tuple #[.int .i64 ((d.y.top+1:Nat):Int),.int .i64 0])∧∃d',d'.y=chY d.y (cs.map (·.1))∧CatIs 89 80 w' cp mp (E.set i d') es clock∧CatFr cp mp E (E.set i d') W w'):=by
 have hlk:=look_sort h hn
 rw[hf] at hlk
 obtain⟨b0,_⟩:=h.box.f1
 have hdE:=(findE_mem hf).1
 have hd:=h.ents d hdE
 obtain⟨g,c,n,ev,hnc2,hnl,hsum,htop,hpos,hrd⟩:=En.open hd hok
 have hbx:=hd.box
 rw[ev] at hbx
 obtain⟨k,hkn⟩:∃k,n=k+1:=⟨n - 1,by omega⟩
 obtain⟨x,hx⟩:∃x,d.xs[k]?=some x:=⟨_,J4 (by omega)⟩
 have hlast:d.y.last=x.t.n:=by
  have h1:d.y.ts.getLast?=some x.t:=by
   rw[←hd.tabs,List.getLast?_map,List.getLast?_eq_getElem?,hnl,hkn,Nat.add_sub_cancel,hx]
   rfl
  rw[Ty.last,h1];rfl
 have hxI:=h.tabs d hdE x (J7 hx)
 have hNmS:=(last_right hok).2
 have hrt:=(last_right hok).1
 rw[hlast] at hT hNmS hrt
 obtain⟨m,hm⟩:∃m,x.t.n.length=m:=⟨_,rfl⟩
 have hm16:m≤16:=by rw[←hm];exact(rightF_may hrt).2
 have hcb:=hxI.cb
 rw[hm] at hcb
 have hxn:=hxI.n.rd
 obtain⟨old,hold⟩:∃y,d.y.old=y:=⟨_,rfl⟩
 obtain⟨top,ht⟩:∃y,d.y.top=y:=⟨_,rfl⟩
 rw[hold] at hbx hsum
 rw[ht] at hsum htop h64 ⊢
 obtain⟨bp,hp⟩:∃p,d.p=p:=⟨_,rfl⟩
 simp only[hp] at hlk
 rw[hp] at hbx
 have hwr:IntKind.i64.wrap ((n:Int) - 1)=(k:Int):=(Xq _ (by omega)).trans (by omega)
 have e1:¬(64:Int)≤(top:Int):=by omega
 have k0:(0:Int)≤(k:Int):=by omega
 have k1:(k:Int)<(n:Int):=by omega
 have HB:=Jy W.heap.size W
 have hcell:∀W',Below W.heap.size W W'→W'.cell? ⟨bp,1,none⟩=some (.slice (some ⟨g,0,none⟩) n c)∧W'.cell? ⟨g,k * 3+1,none⟩=some (.slice x.B m x.b):=fun W' hb=>⟨(hbx.below hb).cell rfl,by have:=(Rd.tab (hrd.below hb) hx).2.1;rw[hm] at this;exact this⟩
 have HS:=J0 hsum;have HH:=J0 h;have HI:=J0 hi;have HOK:=J0 hok;have HT:=J0 hT;have HM:=J0 hm;have HNS:=J0 hNmS;have HLA:=J0 hlast;have HOD:=J0 hold;have HTP:=J0 ht;have HP:=J0 hp;have HEV:=J0 ev;have HNL:=J0 hnl;have HNC:=J0 hnc;have HW:=J0 hw;have HO:=J0 ho;have HKN:=J0 hkn;have HDE:=J0 hdE
 clear hf hd hnl hold ht hok hsum hp h ev hT hm hNmS hlast hi hx hxI hrd hnc hw ho hkn hdE hrt
 go_enter Tryz.func29,Tryz.ntmps29
 go_upto_region 6 with (go_at_call 33;refine(newest_m bp old n _ c top HS.out (by omega) _ (hbx.below HB)).mono ?_;rintro e w1 ⟨rfl,hb⟩;replace HB:=HB.trans (hb.mono HB.size);clear hb)
 rename World=>W1
 have hall:∀W',Below W1.heap.size W1 W'→W'.cell? ⟨bp,1,none⟩=some (.slice (some ⟨g,0,none⟩) n c)∧W'.cell? ⟨g,k * 3+1,none⟩=some (.slice x.B m x.b)∧Below W1.heap.size W1 W':=fun W' hb=>⟨(hcell W' (HB.trans (hb.mono HB.size))).1,(hcell W' (HB.trans (hb.mono HB.size))).2,hb⟩
 have hxn1:=hxn.below HB
 have hK1:=hK.below HB
 have ho1:∀p∈cs,ChO W1 p:=fun p hp=>(HO.out p hp).below HB
 obtain⟨lo,hlo⟩:∃y,T.o.length=y:=⟨_,rfl⟩
 obtain⟨ln,hln⟩:∃y,T.n.length=y:=⟨_,rfl⟩
 obtain⟨lm,hlm⟩:∃y,T.m.length=y:=⟨_,rfl⟩
 have HLO:=J0 hlo;have HLN:=J0 hln;have HLM:=J0 hlm
 clear hlo hln hlm hcell
 go_cut [9,10] (fun s9 s10 wx=>∃p V0 w0 V1 w1 V2 w2,s9=.pointer (some ⟨p,0,none⟩)∧s10=.int .i64 q∧OBox wx p [.slice V0 lo w0,.slice V1 ln w1,.slice V2 lm w2] 96∧lo≤w0∧ln≤w1∧RdP (fun g=>W1.heap.size≤g∧g≠p) wx V0 (cellsF T.o)∧RdP (fun g=>W1.heap.size≤g∧g≠p) wx V1 (cellsF T.n)∧RdP (fun g=>W1.heap.size≤g∧g≠p) wx V2 (cellsM T.m)∧Below W1.heap.size W1 wx∧W1.heap.size≤p)
 case first=>
  go_region_held3 (fun W'=>W'.cell? ⟨bp,1,none⟩=some (.slice (some ⟨g,0,none⟩) n c)∧W'.cell? ⟨g,k * 3+1,none⟩=some (.slice x.B m x.b)∧Below W1.heap.size W1 W') ((refine hall _ ?_;repeat (first|assumption|exact Jy _ _|refine J8 ?_ (by dsimp only;first|exact J9 _|omega) _|refine Jk ?_ (by first|exact J9 _|omega) _|apply Jv)))
   ((go_at_call 63;obtain⟨_,_,HBx⟩:=‹_∧_∧Below W1.heap.size W1 _›;refine(AllL_m x.t.n m HM.out (by omega) x.B x.b hcb K cK nc cs HNC.out hk HNS.out HW.out _ (hxn1.below HBx) (hK1.below HBx) (fun p hp=>(ho1 p hp).below HBx)).mono ?_;rw[HT.out];rintro e W4 ⟨V0,w0,V1,w1,V2,w2,rfl,hv0,hv1,r0,r1,r2,hb4⟩;rw[HLO.out] at hv0;rw[HLN.out] at hv1;rw[HLO.out,HLN.out,HLM.out];have hzx:=HBx.size;have HB4:=below_seq HBx hb4;have hz4:=HB4.size;(first|(have PB:=OBox.below (OBox.new _ [.slice none 0 0,.slice none 0 0,.slice none 0 0] 96) hb4;obtain⟨p0,p1,p2,p3,p4,p5⟩:=PB.f3)|(have PB:=OBox.newB (cs:=[.slice none 0 0,.slice none 0 0,.slice none 0 0]) hb4;obtain⟨p0,p1,p2,p3,p4,p5⟩:=PB.f3)|skip)))
  all_goals (go_wp2_with fail;go_meet;refine⟨_,V0,w0,V1,w1,V2,w2,rfl,rfl,?_,hv0,hv1,?_,?_,?_,?_,?_⟩)
  all_goals first
   |exact OBox.new _ _ _
   |exact obox_set (obox_set (obox_set PB 0 _) 1 _) 2 _
   |exact(RdP.up r0.lt (below_new _)).mono (fun g hg=>by simp at hg ⊢;omega)
   |exact(RdP.up r1.lt (below_new _)).mono (fun g hg=>by simp at hg ⊢;omega)
   |exact(RdP.up r2.lt (below_new _)).mono (fun g hg=>by simp at hg ⊢;omega)
   |exact(r0.set3 _ (fun g hg=>by simp at hg ⊢;omega) 0 1 2 _ _ _).mono (fun g hg=>by simp at hg ⊢;omega)
   |exact(r1.set3 _ (fun g hg=>by simp at hg ⊢;omega) 0 1 2 _ _ _).mono (fun g hg=>by simp at hg ⊢;omega)
   |exact(r2.set3 _ (fun g hg=>by simp at hg ⊢;omega) 0 1 2 _ _ _).mono (fun g hg=>by simp at hg ⊢;omega)
   |exact J9 _
   |(dsimp only;first|exact J9 _|(simp;done)|omega)
   |(repeat (first|assumption|exact Jy _ _|refine J8 ?_ (by dsimp only;first|exact J9 _|omega) _|refine Jk ?_ (by first|exact J9 _|omega) _|apply Jv))
 case rest=>
  obtain⟨p,V0,w0,V1,w1,V2,w2,rfl,rfl,PB,hv0,hv1,r0,r1,r2,hb4,hpz⟩:=hcut
  rename World=>W4
  have HB4:=HB.trans (hb4.mono HB.size)
  clear hall b0 hxn1 hK1 ho1
  by_cases hq:q=0
  ·subst hq
   obtain⟨iT,hiT,hzT0,hzT1,hzT2⟩:=info_parts infoTb
   have hc1:=HH.out.below HB
   have hd4:=(HH.out.below HB4).ents d HDE.out
   have own4:=hd4.row
   rw[HEV.out,HNL.out] at own4
   have hbx4:=hbx.below HB4
   have hgb:g≠bp:=own_ne_box own4 hbx4 (by decide)
   have hbp1:bp<W1.heap.size:=(hbx.below HB).lt
   have hg1:g<W1.heap.size:=by
    have:=own_lt (hc1.ents d HDE.out).row g (by rw[HEV.out];rfl)
    exact this
   have hz4:=hb4.size
   have nf:=below_new (w:=W4.drew) (.cells #[.slice V0 lo w0,.slice V1 ln w1,.slice V2 lm w2] 96)
   have own5:(W4.drew.alloc (.cells #[.slice V0 lo w0,.slice V1 ln w1,.slice V2 lm w2] 96)).ownsRow _ _ _ _ n _:=own_below (w:=W4.drew) own4 nf
   have hbx5:=OBox.below (w:=W4.drew) hbx4 nf
   have hone:∀u∈([.slice V0 lo w0,.slice V1 ln w1,.slice V2 lm w2]:List Value),u.oneCell'=true:=by intro u hu;simp at hu;rcases hu with rfl|rfl|rfl <;> rfl
   have mixed:Tryz.prog.follows .mixedOrders=true:=by kernel_rfl
   have hn64:n≤64:=by have:=HS.out;have:=(HOK.out).lo;rw[HOD.out] at this;omega
   have hb63:n+1≤maxLen:=by simp only[maxLen];omega
   obtain⟨p0,p1,p2,p3,p4,p5⟩:=PB.f3
   have c1:W4.cell? ⟨bp,1,none⟩=some (.slice (some ⟨g,0,none⟩) n c):=hbx4.cell rfl
   have c1a:(W4.alloc (.cells #[.slice V0 lo w0,.slice V1 ln w1,.slice V2 lm w2] 96)).cell? ⟨bp,1,none⟩=some (.slice (some ⟨g,0,none⟩) n c):=(OBox.below hbx4 (below_new _)).cell rfl
   have hsz:∀u∈(Value.agg #[.slice none 0 0,.slice none 0 0,.slice none 0 0]).cells.toList,SlV u:=by intro u hu;simp[Value.cells] at hu;rcases hu with rfl|rfl|rfl <;> exact⟨_,_,_,rfl⟩
   have hsn:∀u∈([.slice V0 lo w0,.slice V1 ln w1,.slice V2 lm w2]:List Value),SlV u:=by intro u hu;simp at hu;rcases hu with rfl|rfl|rfl <;> exact⟨_,_,_,rfl⟩
   have hso:∀g',(Value.slice (some ⟨g,0,none⟩) n c).ownBlock=some g'→AllC SlV (W4.drew.alloc (.cells #[.slice V0 lo w0,.slice V1 ln w1,.slice V2 lm w2] 96)) g':=fun g' hg'=>(hd4.sl g' (by rw[HEV.out];exact hg')).keep (nf.block g' (own_lt own4 g' hg'))
   go_upto_region 9 with fail
   go_region_law_o (refine step_append_all (S:=SlV) rfl (.tmp 49) (.tmp 51) 87 rfl 0 96 iT (.agg #[.slice none 0 0,.slice none 0 0,.slice none 0 0]) 3 72 Tryz.underlying87 hiT hzT0 hzT1 hzT2 rfl (by decide) (.slice (some ⟨g,0,none⟩) n c) n _ (by simp[Act.eval,Act.put]) own5 ⟨W4.heap.size,0,none⟩ 1 1 [.slice V0 lo w0,.slice V1 ln w1,.slice V2 lm w2] (by simp[Act.eval,Act.put]) rfl (news3 W4.drew _ _ _ _) hone hb63 (by omega) (X8 _) (by decide) hsz hsn hso ?_;intro vF' W5 own6 gr5 hat5 hall6;have hbx6:=hbx5.grown gr5 (by intro e;exact hgb (Jj e).symm);obtain⟨F5,c5,rfl,_,_,_⟩:=own_rd own6;obtain⟨i1,i2,i3,i4⟩:=hbx6.f2)
   all_goals
    obtain⟨d',hdy,hcat,hfr,hbx7⟩:=change_fin hc1 HI.out HP.out HEV.out HNL.out HOD.out hb4 HLO.out HLN.out HLM.out hv0 hv1 r0 r1 r2 own6 gr5 hat5 hall6
    clear own6 gr5 hat5 hall6 hbx6 i1 i2 i3 i4 nf own5 hbx5 c1 c1a hsz hsn hso hone own4 hd4 hbx4 PB p0 p1 p2 p3 p4 p5
    generalize W5.setCell ⟨bp,1,none⟩ (.slice F5 (n+1) c5)=W6 at *
    go_wp2_with (go_at_call 33;refine(newest_m bp old (n+1) _ c5 (top+1) (by have:=HS.out;omega) (by omega) _ hbx7).mono ?_;rintro e w7 ⟨rfl,hb7⟩)
    refine bodyPost_ret (v:=.tuple #[.int .i64 ((top+1:Nat):Int),.int .i64 0]) (by simp[results,Tryz.results29,go_sem, *];done) rfl ?_
    have hdz:d'.y=chY d.y (cs.map (·.1)):=by rw[hdy,chY,HLA.out,HT.out]
    first
     |exact⟨by simp,d',hdz,hcat.below hb7,(CatFr.after HB hfr).then hb7⟩
     |exact .inr ⟨rfl,rfl,d',hdz,hcat.below hb7,(CatFr.after HB hfr).then hb7⟩
  ·have e2:(q == 0)=false:=by simpa using hq
   have e3:(q != 0)=true:=by simpa using hq
   go_wp2
   refine bodyPost_ret (v:=.tuple #[.int .i64 0,.int .i64 q]) (by simp[results,Tryz.results29,go_sem, *];done) rfl (.inl ⟨hq,rfl,HB4⟩)
end
section
open Go.RowKit Go.Lib
theorem Rd.num {w:World} {A:Option Addr} {q:List Int} (h:Rd w A (cellsI q)) {k:Nat} {y:Int} (hy:q[k]?=some y):∃ad,A=some ad∧w.cell? (ad.add k)=some (.int .i64 y):=
 h.at (by simp[cellsI,hy])
theorem IndexI_m (A:Option Addr) (c n:Nat) (q:List Int) (hn:q.length=n) (x:Int) (w:World) (hA:Rd w A (cellsI q)) (hl:n≤9223372036854775807):
 Calls Tryz.prog 82 #[.slice A n c,.int .i64 x] w fun e w'=>∃r:Int,e=.returned (.int .i64 r)∧decide (0≤r)=(q.any fun y=>decide (y=x))∧Below w.heap.size w w':=by
 have HN:=J0 hn
 clear hn
 go_enter Tryz.func82,Tryz.ntmps82
 go_wp2
 go_loopw [5,8] (fun _ i wr=>∃k:Nat,k≤n∧i=.int .i64 k∧Below w.heap.size w wr∧Hid (∀(j:Nat) (y:Int),j<k→q[j]?=some y→y≠x)) (fun _ i _=>n - (intOf i).toNat)
 case atStart=>exact⟨0,by omega,rfl,Jy _ _,J0 (fun j g h=>by omega)⟩
 case round=>
  obtain⟨k,hk,rfl,HB,hb⟩:=hrel
  have hAr:=hA.below HB
  by_cases hlt:k<n
  ·obtain⟨y,hy⟩:∃y,q[k]?=some y:=⟨_,J4 (by rw[HN.out];exact hlt)⟩
   obtain⟨ad,rfl,hcell⟩:=Rd.num hAr hy
   by_cases he:x=y
   ·subst he
    have hany:(q.any fun y=>decide (y=x))=true:=List.any_eq_true.2 ⟨x,J7 hy,by simp⟩
    have HA:=J0 hany
    clear hb hy hany
    go_wp2
    go_ret
    refine⟨_,rfl,?_,HB⟩
    rw[HA.out]
    simp
   ·have e1:(x == y)=false:=by simpa using he
    have hb':∀(j:Nat) (g:Int),j<k+1→q[j]?=some g→g≠x:=fun j g hj hg=>by
     rcases(by omega:j<k∨j=k) with h|rfl
     ·exact hb.out j g h hg
     ·rw[hy] at hg;cases hg;exact fun e=>he e.symm
    have HB2:=J0 hb'
    clear hb hb' hy
    go_wp2
    go_roundw
    case rel=>exact⟨k+1,by omega,by go_num,HB,HB2⟩
    case measure=>simp[intOf];omega
  ·obtain rfl:k=n:=by omega
   have hany:(q.any fun y=>decide (y=x))=false:=by
    rw[List.any_eq_false]
    intro y hy
    obtain⟨j,hj⟩:=Qq.1 hy
    have hjl:=(J6.1 hj).1
    simpa using hb.out j y (by rw[←HN.out];exact hjl) hj
   have HA:=J0 hany
   clear hb hany
   go_wp2
   go_ret
   exact⟨-1,rfl,by rw[HA.out];decide,HB⟩
theorem ContainsI_m (A:Option Addr) (c n:Nat) (q:List Int) (hn:q.length=n) (x:Int) (w:World) (hA:Rd w A (cellsI q)) (hl:n≤9223372036854775807):
 Calls Tryz.prog 44 #[.slice A n c,.int .i64 x] w fun e w'=>e=.returned (.bool (q.any fun y=>decide (y=x)))∧Below w.heap.size w w':=by
 go_enter Tryz.func44,Tryz.ntmps44
 go_wp2_with (go_at_call 82;refine(IndexI_m A c n q hn x _ hA hl).mono ?_;rintro e w1 ⟨r,rfl,hr,HB⟩)
 go_ret
 exact⟨by rw[←hr];rfl,HB⟩
end
end Go.Proofs.YteembinfgbapgaaGreat
