/- Merged out of: Gs Gt Gv Gw Ha Kn. -/
import Derived.Test.YteembinfgbapgaaGreatC00
import Derived.Test.YteembinfgbapgaaGreatC09
import Derived.Test.YteembinfgbapgaaGreatC06
import Derived.Deep.DeepCutAuto
set_option linter.unusedSimpArgs false
set_option linter.unusedVariables false
set_option maxRecDepth 100000
set_option maxHeartbeats 8000000
namespace Go.Proofs.YteembinfgbapgaaGreat
section
open Go.RowKit
theorem rSet_bad (s:ByteArray) (A:Option Addr) (c:Nat) (fs:List Fd) (nm:ByteArray) (v:Vl) (q:Int) (h:locF fs s.size nm=.inl q) (w:World) (hA:Rd w A (cellsF fs)) (hl:fs.length≤9223372036854775807) (hs:∀f∈fs,f.s.size≤9223372036854775807):
 Calls Tryz.prog 120 #[.string s,.slice A fs.length c,.string nm,v.v] w fun e w'=>e=.returned (.tuple #[.string ⟨#[]⟩,.int .i64 q])∧Below w.heap.size w w':=by
 obtain⟨z,hz⟩:∃z,sizeF fs=z:=⟨_,rfl⟩
 have HZ:=J0 hz
 have hcase:(rightF fs=false∧q=60)∨(rightF fs=true∧((s.size:Int) != (z:Int))=true∧q=60)∨(rightF fs=true∧((s.size:Int) != (z:Int))=false∧q=61∧findZ fs nm<0):=by
  rcases loc_bad h with ⟨rfl,h1⟩|⟨rfl,h1,h2,h3⟩
  ·cases hr:rightF fs
   ·exact .inl ⟨rfl,rfl⟩
   ·rw[hr] at h1
    have h1:=h1.resolve_left (by simp)
    exact .inr (.inl ⟨rfl,by rw[←hz];simp;omega,rfl⟩)
  ·exact .inr (.inr ⟨h1,by rw[←hz,h2];simp,rfl,h3⟩)
 clear h hz
 unfold Vl.v
 rcases hcase with ⟨hr,rfl⟩|⟨hr,hne,rfl⟩|⟨hr,hne,rfl,hk⟩
 ·have HR:=J0 hr
  clear hr
  go_enter Tryz.func120,Tryz.ntmps120
  go_wp2_with (first
   |(go_at_call 76;refine(rLayout_is A c fs z HZ.out _ (hA.below (below_new _)) hl hs).mono ?_;rintro e w1 ⟨B,m,c',rfl,hm,hrd,hb1⟩;have hA1:=(hA.below (below_new _)).below hb1)
   |(go_at_call 77;refine(rFRight_is A c fs _ HR.out _ hA1 hl hs).mono ?_;rintro e w2 ⟨rfl,hb2⟩;have HB:=below_seq (below_seq (below_new _) hb1) hb2))
  go_ret2
  exact⟨rfl,HB⟩
 ·have HR:=J0 hr
  clear hr
  go_enter Tryz.func120,Tryz.ntmps120
  go_wp2_with (first
   |(go_at_call 76;refine(rLayout_is A c fs z HZ.out _ (hA.below (below_new _)) hl hs).mono ?_;rintro e w1 ⟨B,m,c',rfl,hm,hrd,hb1⟩;have hA1:=(hA.below (below_new _)).below hb1)
   |(go_at_call 77;refine(rFRight_is A c fs _ HR.out _ hA1 hl hs).mono ?_;rintro e w2 ⟨rfl,hb2⟩;have HB:=below_seq (below_seq (below_new _) hb1) hb2))
  go_ret2
  exact⟨rfl,HB⟩
 ·have HR:=J0 hr
  obtain⟨k,hkz⟩:∃k,findZ fs nm=k:=⟨_,rfl⟩
  rw[hkz] at hk
  have HK:=J0 hkz
  have hd:decide (k<0)=true:=by simpa using hk
  clear hr hkz
  go_enter Tryz.func120,Tryz.ntmps120
  go_wp2_with (first
   |(go_at_call 76;refine(rLayout_is A c fs z HZ.out _ (hA.below (below_new _)) hl hs).mono ?_;rintro e w1 ⟨B,m,c',rfl,hm,hrd,hb1⟩;have hA1:=(hA.below (below_new _)).below hb1)
   |(go_at_call 77;refine(rFRight_is A c fs _ HR.out _ hA1 hl hs).mono ?_;rintro e w2 ⟨rfl,hb2⟩;have hA2:=hA1.below hb2)
   |(go_at_call 114;refine(rFind_is A c fs _ _ HK.out _ hA2 hl).mono ?_;rintro e w3 ⟨rfl,rfl⟩;have HB:=below_seq (below_seq (below_new _) hb1) hb2))
  go_ret2
  exact⟨rfl,HB⟩
theorem strL_over (s x:ByteArray) (i:Nat) (h:i+x.size≤s.size):s.extract 0 i++x++s.extract (i+x.size) s.size=strL (overB (bl s) i (bl x)):=by
 have e:∀a b:ByteArray,bl (a++b)=bl a++bl b:=fun a b=>by simp[bl,ByteArray.data_append]
 rw[←strL_bl (s.extract 0 i++x++s.extract (i+x.size) s.size),e,e,bl_extract,bl_extract,overB,bl_length]
 rw[List.drop_zero,Nat.sub_zero,Vz (l:=(bl s).drop (i+x.size)) (by rw[List.length_drop,bl_length];exact J9 _)]
theorem rSet_ok (s:ByteArray) (A:Option Addr) (c:Nat) (fs:List Fd) (nm:ByteArray) (v:Vl) (h0:0≤v.b) (h1:v.b<18446744073709551616) (at_:Nat) (f:Fd) (h:locF fs s.size nm=.inr (at_,f)) (w:World) (hA:Rd w A (cellsF fs)) (hl:fs.length≤9223372036854775807) (hs:∀f∈fs,f.s.size≤9223372036854775807):
 Calls Tryz.prog 120 #[.string s,.slice A fs.length c,.string nm,v.v] w fun e w'=>e=.returned (.tuple #[.string (strL (setB (bl s) fs nm v)),.int .i64 (setE (bl s) fs nm v)])∧Below w.heap.size w w':=by
 obtain⟨hm,hin,hlen,hn⟩:=loc_in h
 obtain⟨hr,hz,k,hk,hf,hat⟩:=loc_ok h
 have hn2:=f.n_le
 have hset:∀x q,encS v.k v.b v.t f.k f.l=x→encE v.k v.b v.t f.k f.l=q→(q=50∧setB (bl s) fs nm v=[]∧setE (bl s) fs nm v=50)∨(q=0∧x.size=f.n∧strL (setB (bl s) fs nm v)=s.extract 0 at_++x++s.extract (at_+x.size) s.size∧setE (bl s) fs nm v=0):=by
  rintro x q rfl rfl
  cases hrr:rightB v.k v.b v.t f.k f.l
  ·exact .inl ⟨by simp[encE,hrr],by simp[setB,bl_length,h,hrr],by simp[setE,bl_length,h,hrr]⟩
  ·have e1:=encL_length hrr
   have e2:encS v.k v.b v.t f.k f.l=strL (encL v.b v.t f.k f.l):=by simp[encS,hrr]
   refine .inr ⟨by simp[encE,hrr],by rw[e2,strL_size,e1],?_,by simp[setE,bl_length,h,hrr]⟩
   rw[strL_over _ _ _ (by rw[e2,strL_size,e1];omega),e2,bl_strL]
   simp[setB,bl_length,h,hrr]
 obtain⟨x,hx⟩:∃x,encS v.k v.b v.t f.k f.l=x:=⟨_,rfl⟩
 obtain⟨q,hq⟩:∃q,encE v.k v.b v.t f.k f.l=q:=⟨_,rfl⟩
 have hcase:=hset x q hx hq
 have HX:=J0 hx
 have HQ:=J0 hq
 have HR:=J0 hr
 have HZ:=J0 hz.symm
 have HK:=J0 hk
 have HF:=J0 hf
 have HT:=J0 hat
 have hk1:=(J6.1 hf).1
 have hk2:=(J6.1 hat).1
 clear h hr hz hk hf hat hset hx hq
 unfold Vl.v
 have hi0:(0:Int)≤(k:Int):=by omega
 have hi1:(k:Int)<((layL fs).length:Int):=by omega
 have hi2:(k:Int)<(fs.length:Int):=by omega
 rcases hcase with ⟨rfl,e1,e2⟩|⟨rfl,hxs,e1,e2⟩
 ·rw[e1,e2]
  clear e1 e2
  go_enter Tryz.func120,Tryz.ntmps120
  go_wp2_with (first
   |(go_at_call 76;refine(rLayout_is A c fs s.size HZ.out _ (hA.below (below_new _)) hl hs).mono ?_;rintro e w1 ⟨B,m,c',rfl,hm,hrd,hb1⟩;have hA1:=(hA.below (below_new _)).below hb1)
   |(go_at_call 77;refine(rFRight_is A c fs _ HR.out _ hA1 hl hs).mono ?_;rintro e w2 ⟨rfl,hb2⟩;have hA2:=hA1.below hb2)
   |(go_at_call 114;refine(rFind_is A c fs _ _ HK.out _ hA2 hl).mono ?_;rintro e w3 ⟨rfl,rfl⟩;have HB:=below_seq (below_seq (below_new _) hb1) hb2;obtain⟨ad,rfl,g0,g1,g2⟩:=hA2.fld HF.out;obtain⟨d0,d1,d2⟩:=((VBox.new w v.k v.b v.t).below hb1).below hb2))
  refine RW.start (fun w'=>Below w.heap.size w w'∧VBox w' w.heap.size v.k v.b v.t∧w'.cell? (ad.add (k * 3))=some (.string f.s)∧w'.cell? ⟨(ad.add (k * 3)).block,(ad.add (k * 3)).off+(0+1),none⟩=some (.int .i64 f.k)∧w'.cell? ⟨(ad.add (k * 3)).block,(ad.add (k * 3)).off+(1+1),none⟩=some (.int .i64 f.l)) (by kernel_rfl) (by kernel_rfl) ⟨HB.drew,⟨d0,d1,d2⟩,g0,g1,g2⟩ ?_
  clear HB d0 d1 d2 g0 g1 g2 hA1 hA2 hA hrd hb1 hb2
  repeat (first
   |(refine' RW.val (by rfl) ?_ ?_;rotate_left;(focus (intro w' hS;obtain⟨HB,⟨d0,d1,d2⟩,g0,g1,g2⟩:=hS;go_simp;rfl));simp only[Act.put,J1,J3,J2])
   |(refine RW.off (by rfl) ?_;simp only[Act.put,J1,J3,J2])
   |(refine' RW.call (by rfl) ?_ ?_ ?_
     rotate_left 3
     (focus (intro w' hS;obtain⟨HB,⟨d0,d1,d2⟩,g0,g1,g2⟩:=hS;go_simp;exact⟨rfl,rfl⟩))
     (focus
       intro w' hS
       obtain⟨HB,⟨d0,d1,d2⟩,g0,g1,g2⟩:=hS
       first
        |(refine(rEncode_is _ _ _ _ _ _ h0 h1 _ _ HX.out HQ.out _).mono ?_;rintro e w1 ⟨rfl,hb⟩;exact⟨rfl,⟨(below_seq HB hb),⟨(cell_below (B:=0) hb d0),(cell_below (B:=0) hb d1),(cell_below (B:=0) hb d2)⟩,(cell_below (B:=0) hb g0),(cell_below (B:=0) hb g1),(cell_below (B:=0) hb g2)⟩⟩))
     simp only[Act.put,J1,J3,J2]))
  refine RW.done (fun w' hS=>?_)
  obtain⟨HB,⟨d0,d1,d2⟩,g0,g1,g2⟩:=hS
  go_wp2
  go_ret2
  exact⟨rfl,HB⟩
 ·rw[e1,e2]
  clear e1 e2
  have HXS:=J0 hxs
  have hs1:(at_:Int)≤(s.size:Int):=by omega
  have hs2:(at_:Int)+(x.size:Int)≤(s.size:Int):=by omega
  have hs3:((at_:Int)+(x.size:Int)).toNat=at_+x.size:=by omega
  have hs4:(0:Int)≤(at_:Int)+(x.size:Int):=by omega
  have hs5:IntKind.i64.wrap ((at_:Int)+(x.size:Int))=(at_:Int)+(x.size:Int):=Xq _ (by omega)
  have z1:¬9223372036854775807<min at_ s.size+x.size:=by omega
  have z2:¬9223372036854775807<min at_ s.size+x.size+(s.size - (at_+x.size)):=by omega
  clear hxs
  go_enter Tryz.func120,Tryz.ntmps120
  go_wp2_with (first
   |(go_at_call 76;refine(rLayout_is A c fs s.size HZ.out _ (hA.below (below_new _)) hl hs).mono ?_;rintro e w1 ⟨B,m,c',rfl,hm,hrd,hb1⟩;have hA1:=(hA.below (below_new _)).below hb1)
   |(go_at_call 77;refine(rFRight_is A c fs _ HR.out _ hA1 hl hs).mono ?_;rintro e w2 ⟨rfl,hb2⟩;have hA2:=hA1.below hb2)
   |(go_at_call 114;refine(rFind_is A c fs _ _ HK.out _ hA2 hl).mono ?_;rintro e w3 ⟨rfl,rfl⟩;have HB:=below_seq (below_seq (below_new _) hb1) hb2;obtain⟨ad,rfl,g0,g1,g2⟩:=hA2.fld HF.out;obtain⟨d0,d1,d2⟩:=((VBox.new w v.k v.b v.t).below hb1).below hb2;obtain⟨bd,rfl,g3⟩:=(hrd.below hb2).int HT.out))
  refine RW.start (fun w'=>Below w.heap.size w w'∧VBox w' w.heap.size v.k v.b v.t∧w'.cell? (ad.add (k * 3))=some (.string f.s)∧w'.cell? ⟨(ad.add (k * 3)).block,(ad.add (k * 3)).off+(0+1),none⟩=some (.int .i64 f.k)∧w'.cell? ⟨(ad.add (k * 3)).block,(ad.add (k * 3)).off+(1+1),none⟩=some (.int .i64 f.l)∧w'.cell? (bd.add k)=some (.int .i64 at_)) (by kernel_rfl) (by kernel_rfl) ⟨HB.drew,⟨d0,d1,d2⟩,g0,g1,g2,g3⟩ ?_
  clear HB d0 d1 d2 g0 g1 g2 g3 hA1 hA2 hA hrd hb1 hb2
  repeat (first
   |(refine' RW.val (by rfl) ?_ ?_;rotate_left;(focus (intro w' hS;obtain⟨HB,⟨d0,d1,d2⟩,g0,g1,g2,g3⟩:=hS;go_simp;rfl));simp only[Act.put,J1,J3,J2])
   |(refine RW.off (by rfl) ?_;simp only[Act.put,J1,J3,J2])
   |(refine' RW.call (by rfl) ?_ ?_ ?_
     rotate_left 3
     (focus (intro w' hS;obtain⟨HB,⟨d0,d1,d2⟩,g0,g1,g2,g3⟩:=hS;go_simp;exact⟨rfl,rfl⟩))
     (focus
       intro w' hS
       obtain⟨HB,⟨d0,d1,d2⟩,g0,g1,g2,g3⟩:=hS
       first
        |(refine(rEncode_is _ _ _ _ _ _ h0 h1 _ _ HX.out HQ.out _).mono ?_;rintro e w1 ⟨rfl,hb⟩;exact⟨rfl,⟨(below_seq HB hb),⟨(cell_below (B:=0) hb d0),(cell_below (B:=0) hb d1),(cell_below (B:=0) hb d2)⟩,(cell_below (B:=0) hb g0),(cell_below (B:=0) hb g1),(cell_below (B:=0) hb g2),(cell_below (B:=0) hb g3)⟩⟩))
     simp only[Act.put,J1,J3,J2]))
  refine RW.done (fun w' hS=>?_)
  obtain⟨HB,⟨d0,d1,d2⟩,g0,g1,g2,g3⟩:=hS
  go_wp2
  refine RW.start (fun w'=>Below w.heap.size w w'∧w'.cell? (bd.add k)=some (.int .i64 at_)) (by kernel_rfl) (by kernel_rfl) ⟨HB.drew,g3⟩ ?_
  clear HB d0 d1 d2 g0 g1 g2 g3
  repeat (first
   |(refine' RW.val (by rfl) ?_ ?_;rotate_left;(focus (intro w' hS;obtain⟨HB,g3⟩:=hS;go_simp;rfl));simp only[Act.put,J1,J3,J2])
   |(refine RW.off (by rfl) ?_;simp only[Act.put,J1,J3,J2]))
  refine RW.done (fun w' hS=>?_)
  obtain⟨HB,g3⟩:=hS
  go_wp2
  go_ret2
  exact⟨rfl,HB⟩
theorem rSet_calls (s:ByteArray) (A:Option Addr) (c:Nat) (fs:List Fd) (nm:ByteArray) (v:Vl) (h0:0≤v.b) (h1:v.b<18446744073709551616) (w:World) (hA:Rd w A (cellsF fs)) (hl:fs.length≤9223372036854775807) (hs:∀f∈fs,f.s.size≤9223372036854775807):
 Calls Tryz.prog 120 #[.string s,.slice A fs.length c,.string nm,v.v] w fun e w'=>e=.returned (.tuple #[.string (strL (setB (bl s) fs nm v)),.int .i64 (setE (bl s) fs nm v)])∧Below w.heap.size w w':=by
 cases h:locF fs s.size nm with
 |inl q=>
  have e1:setB (bl s) fs nm v=[]:=by simp[setB,bl_length,h]
  have e2:setE (bl s) fs nm v=q:=by simp[setE,bl_length,h]
  rw[e1,e2]
  exact rSet_bad s A c fs nm v q h w hA hl hs
 |inr x=>
  obtain⟨at_,f⟩:=x
  exact rSet_ok s A c fs nm v h0 h1 at_ f h w hA hl hs
theorem rPut1_is (n:Int) (h0:0≤n) (h1:n<256) (p:ByteArray) (hp:strL [UInt8.ofNat n.toNat]=p) (w:World):Calls Tryz.prog 83 #[.int .i64 1,.int .u64 n] w fun e w'=>e=.returned (.string p)∧Below w.heap.size w w':=by
 have:=rPut_calls n 1 (by omega) h0 (by omega) w
 have e:putL n 1=[UInt8.ofNat n.toNat]:=by
  have hf:fitsB n 1 false=true:=by simp[fitsB,widthB,topZ];omega
  rw[show ((1:Nat):Int)=1 from rfl] at *
  rw[putL]
  rw[show ((1:Nat):Int)=1 from rfl,if_pos hf]
  simp[leL,byteZ]
  congr 2
  omega
 rw[e,hp] at this
 exact this
theorem rFEncode_no (A:Option Addr) (c:Nat) (fs:List Fd) (hr:rightF fs=false) (w:World) (hA:Rd w A (cellsF fs)) (hl:fs.length≤9223372036854775807) (hs:∀f∈fs,f.s.size≤9223372036854775807):
 Calls Tryz.prog 123 #[.slice A fs.length c] w fun e w'=>e=.returned (.tuple #[.string ⟨#[]⟩,.int .i64 60])∧Below w.heap.size w w':=by
 have HR:=J0 hr
 clear hr
 go_enter Tryz.func123,Tryz.ntmps123
 go_wp2_with (go_at_call 77;refine(rFRight_is _ _ _ _ HR.out _ hA hl hs).mono ?_;rintro e w1 ⟨rfl,hb1⟩)
 go_ret2
 exact⟨rfl,hb1⟩
theorem rFEncode_yes (A:Option Addr) (c:Nat) (fs:List Fd) (hr:rightF fs=true) (w:World) (hA:Rd w A (cellsF fs)) (hl:fs.length≤9223372036854775807) (hs:∀f∈fs,f.s.size≤9223372036854775807):
 Calls Tryz.prog 123 #[.slice A fs.length c] w fun e w'=>e=.returned (.tuple #[.string (strL (encFL fs)),.int .i64 0])∧Below w.heap.size w w':=by
 obtain⟨hmay,h16⟩:=rightF_may hr
 have hnm:=fun f hf=>name_size (rightF_name hr (f:=f) hf)
 have HR:=J0 hr
 have HP0:Hid (strL [UInt8.ofNat ((fs.length:Nat):Int).toNat]=strL (partF fs 0)):=J0 (by simp[partF])
 clear hr
 go_enter Tryz.func123,Tryz.ntmps123
 go_wp2_with (first
  |(go_at_call 77;refine(rFRight_is _ _ _ _ HR.out _ hA hl hs).mono ?_;rintro e w1 ⟨rfl,hb1⟩)
  |(go_at_call 83;refine(rPut1_is (fs.length:Int) (by omega) (by omega) _ HP0.out _).mono ?_;rintro e w2 ⟨rfl,hb2⟩;have HB0:=hb1.trans (hb2.mono hb1.size)))
 go_loopw [4,5] (fun v i wr=>∃k:Nat,k≤fs.length∧i=.int .i64 k∧v=.string (strL (partF fs k))∧Below w.heap.size w wr) (fun _ i _=>fs.length - (intOf i).toNat)
 case atStart=>exact⟨0,by omega,rfl,rfl,HB0⟩
 case round=>
  obtain⟨k,hk,rfl,rfl,HB⟩:=hrel
  clear HB0 hb1 hb2
  have hAr:=hA.below HB
  by_cases hlt:k<fs.length
  ·obtain⟨f,hf⟩:∃f,fs[k]?=some f:=⟨_,J4 hlt⟩
   obtain⟨ad,rfl,c0,c1,c2⟩:=hAr.fld hf
   have hfm:=J7 hf
   obtain⟨n1,n2⟩:=hnm f hfm
   obtain⟨m1,m2,m3,m4⟩:=may_small (hmay f hfm)
   have hsucc:=partF_succ hf
   have hpl:(partF fs k).length≤400:=by
    have:=flat_length (fs.take k) (fun g hg=>(hnm g (List.mem_of_mem_take hg)).2)
    rw[Qv] at this
    simp only[partF,Xx];omega
   obtain⟨acc,hacc⟩:∃a,strL (partF fs k)=a:=⟨_,rfl⟩
   have hal:acc.size≤400:=by rw[←hacc,strL_size];exact hpl
   obtain⟨p1,hp1⟩:∃p,strL [UInt8.ofNat ((f.s.size:Nat):Int).toNat]=p:=⟨_,rfl⟩
   obtain⟨p2,hp2⟩:∃p,strL [UInt8.ofNat f.k.toNat]=p:=⟨_,rfl⟩
   obtain⟨p3,hp3⟩:∃p,strL [UInt8.ofNat f.l.toNat]=p:=⟨_,rfl⟩
   have l1:p1.size=1:=by rw[←hp1,strL_size];rfl
   have l2:p2.size=1:=by rw[←hp2,strL_size];rfl
   have l3:p3.size=1:=by rw[←hp3,strL_size];rfl
   have hend:acc++p1++f.s++p2++p3=strL (partF fs (k+1)):=by
    rw[hsucc,←hacc,←hp1,←hp2,←hp3]
    conv=>lhs;rw[←strL_bl f.s]
    rw[strL_append,strL_append,strL_append,strL_append]
    congr 1
    simp[rowF,bl_strL,strL_bl]
   have z1:¬9223372036854775807<acc.size+p1.size:=by omega
   have z2:¬9223372036854775807<acc.size+p1.size+f.s.size:=by omega
   have z3:¬9223372036854775807<acc.size+p1.size+f.s.size+p2.size:=by omega
   have z4:¬9223372036854775807<acc.size+p1.size+f.s.size+p2.size+p3.size:=by omega
   rw[hacc]
   have b1:(0:Int)≤(f.s.size:Int):=by omega
   have b2:(f.s.size:Int)<256:=by omega
   have b4:f.k<256:=by omega
   have b6:f.l<256:=by omega
   have w1:IntKind.u64.wrap (f.s.size:Int)=(f.s.size:Int):=IntWalk.u64_in _ (by omega)
   have w2:IntKind.u64.wrap f.k=f.k:=IntWalk.u64_in _ (by omega)
   have w3:IntKind.u64.wrap f.l=f.l:=IntWalk.u64_in _ (by omega)
   have P1:=J0 hp1
   have P2:=J0 hp2
   have P3:=J0 hp3
   have HE:=J0 hend
   have hi0:(0:Int)≤(k:Int):=by omega
   have hi2:(k:Int)<(fs.length:Int):=by omega
   clear hp1 hp2 hp3 hend hacc hsucc l1 l2 l3 hf hA hAr hs hfm hnm
   go_wp2
   refine RW.start (fun w'=>Below w.heap.size w w'∧w'.cell? (ad.add (k * 3))=some (.string f.s)∧w'.cell? ⟨(ad.add (k * 3)).block,(ad.add (k * 3)).off+(0+1),none⟩=some (.int .i64 f.k)∧w'.cell? ⟨(ad.add (k * 3)).block,(ad.add (k * 3)).off+(1+1),none⟩=some (.int .i64 f.l)) (by kernel_rfl) (by kernel_rfl) ⟨HB.drew,c0,c1,c2⟩ ?_
   clear HB c0 c1 c2
   repeat (first
    |(refine' RW.val (by rfl) ?_ ?_;rotate_left;(focus (intro w' hS;obtain⟨HB,c0,c1,c2⟩:=hS;go_simp;rfl));simp only[Act.put,J1,J3,J2])
    |(refine RW.off (by rfl) ?_;simp only[Act.put,J1,J3,J2])
    |(refine' RW.call (by rfl) ?_ ?_ ?_
      rotate_left 3
      (focus (intro w' hS;obtain⟨HB,c0,c1,c2⟩:=hS;go_simp;exact⟨rfl,rfl⟩))
      (focus
        intro w' hS
        obtain⟨HB,c0,c1,c2⟩:=hS
        first
         |((with_reducible refine(rPut1_is (f.s.size:Int) b1 b2 _ P1.out _).mono ?_);rintro e w1 ⟨rfl,hb⟩;exact⟨rfl,⟨(below_seq HB hb),(cell_below (B:=0) hb c0),(cell_below (B:=0) hb c1),(cell_below (B:=0) hb c2)⟩⟩)
         |((with_reducible refine(rPut1_is f.k m1 b4 _ P2.out _).mono ?_);rintro e w1 ⟨rfl,hb⟩;exact⟨rfl,⟨(below_seq HB hb),(cell_below (B:=0) hb c0),(cell_below (B:=0) hb c1),(cell_below (B:=0) hb c2)⟩⟩)
         |((with_reducible refine(rPut1_is f.l m3 b6 _ P3.out _).mono ?_);rintro e w1 ⟨rfl,hb⟩;exact⟨rfl,⟨(below_seq HB hb),(cell_below (B:=0) hb c0),(cell_below (B:=0) hb c1),(cell_below (B:=0) hb c2)⟩⟩))
      simp only[Act.put,J1,J3,J2]))
   refine RW.done (fun w' hS=>?_)
   obtain⟨HB,c0,c1,c2⟩:=hS
   clear w1 w2 w3
   go_wp2
   go_roundw
   case rel=>exact⟨k+1,by omega,by go_num,by rw[HE.out],HB⟩
   case measure=>simp[intOf];omega
  ·obtain rfl:k=fs.length:=by omega
   have e:partF fs fs.length=encFL fs:=by rw[partF,List.take_length];rfl
   rw[e]
   clear hA hAr e
   go_wp2
   go_ret2
   exact⟨rfl,HB⟩
theorem rFEncode_calls (A:Option Addr) (c:Nat) (fs:List Fd) (w:World) (hA:Rd w A (cellsF fs)) (hl:fs.length≤9223372036854775807) (hs:∀f∈fs,f.s.size≤9223372036854775807):
 Calls Tryz.prog 123 #[.slice A fs.length c] w fun e w'=>e=.returned (.tuple #[.string (strL (wrL fs)),.int .i64 (wrE fs)])∧Below w.heap.size w w':=by
 cases hr:rightF fs
 ·have e1:wrL fs=[]:=by simp[wrL,hr]
  have e2:wrE fs=60:=by simp[wrE,hr]
  rw[e1,e2]
  exact rFEncode_no A c fs hr w hA hl hs
 ·have e1:wrL fs=encFL fs:=by simp[wrL,hr]
  have e2:wrE fs=0:=by simp[wrE,hr]
  rw[e1,e2]
  exact rFEncode_yes A c fs hr w hA hl hs
instance:DecidableEq Fd:=fun a b=>decidable_of_iff (a.s=b.s∧a.k=b.k∧a.l=b.l) (by cases a;cases b;simp)
def sameFB (a b:List Fd):Bool:=decide (a=b)
theorem toList_iff (a b:ByteArray):a.toList=b.toList↔a=b:=by
 constructor
 ·intro h
  simp only[ByteArray.toList_eq] at h
  have:a.data=b.data:=Array.toList_inj.1 h
  cases a;cases b;simp_all
 ·intro h;rw[h]
theorem fd_ways (x y:Fd):(¬x=y∧¬x.s.toList=y.s.toList)∨(¬x=y∧x.s.toList=y.s.toList∧¬x.k=y.k)∨(¬x=y∧x.s.toList=y.s.toList∧x.k=y.k∧¬x.l=y.l)∨(x=y∧x.s.toList=y.s.toList∧x.k=y.k∧x.l=y.l):=by
 simp only[toList_iff]
 have e:x=y↔x.s=y.s∧x.k=y.k∧x.l=y.l:=by cases x;cases y;simp
 rw[e]
 by_cases h1:x.s=y.s <;> by_cases h2:x.k=y.k <;> by_cases h3:x.l=y.l <;> simp[h1,h2,h3]
theorem rSame_calls (A B:Option Addr) (c d:Nat) (a b:List Fd) (w:World) (hA:Rd w A (cellsF a)) (hB:Rd w B (cellsF b)) (ha:a.length≤9223372036854775807) (hb:b.length≤9223372036854775807):
 Calls Tryz.prog 22 #[.slice A a.length c,.slice B b.length d] w fun e w'=>e=.returned (.bool (sameFB a b))∧Below w.heap.size w w':=by
 by_cases hlen:a.length=b.length
 ·have hz:((a.length:Int) != (b.length:Int))=false:=by rw[hlen];simp
  obtain⟨r,hr⟩:∃r,sameFB a b=r:=⟨_,rfl⟩
  rw[hr]
  have HR:=J0 hr
  have HL:=J0 hlen
  clear hr
  obtain⟨m,hm⟩:∃m,b.length=m:=⟨_,rfl⟩
  rw[hm] at hz hlen ⊢
  have HM:=J0 hm
  clear hm hlen hb
  go_enter Tryz.func22,Tryz.ntmps22
  go_wp2
  go_loopw [5] (fun i wr=>∃k:Nat,k≤a.length∧i=.int .i64 k∧Below w.heap.size w wr∧Hid (a.take k=b.take k)) (fun i _=>a.length - (intOf i).toNat)
  case atStart=>exact⟨0,by omega,rfl,Jy _ _,J0 rfl⟩
  case round=>
   obtain⟨k,hk,rfl,HB,hall⟩:=hrel
   have hAr:=hA.below HB
   have hBr:=hB.below HB
   clear hA hB
   by_cases hlt:k<a.length
   ·have hlb:k<m:=by have:=HL.out;have:=HM.out;omega
    obtain⟨x,hx⟩:∃x,a[k]?=some x:=⟨_,J4 hlt⟩
    obtain⟨y,hy⟩:∃y,b[k]?=some y:=⟨_,J4 (by rw[HM.out];exact hlb)⟩
    obtain⟨ad,rfl,c0,c1,c2⟩:=hAr.fld hx
    obtain⟨bd,rfl,d0,d1,d2⟩:=hBr.fld hy
    have HX:=J0 hx
    have HY:=J0 hy
    clear hx hy hAr hBr
    have hi0:(0:Int)≤(k:Int):=by omega
    have hi1:(k:Int)<(a.length:Int):=by omega
    have hi2:(k:Int)<(m:Int):=by omega
    go_wp2
    rcases fd_ways x y with ⟨hne,h1⟩|⟨hne,h1,h2⟩|⟨hne,h1,h2,h3⟩|⟨he,h1,h2,h3⟩
    ·obtain rfl:r=false:=by
      rw[←HR.out];simp[sameFB];intro e
      have h1:=HX.out;rw[e,HY.out] at h1;exact hne (Jj h1).symm
     clear hne hall
     refine RW.start (fun w'=>Below w.heap.size w w'∧(w'.cell? (ad.add (k * 3))=some (.string x.s)∧w'.cell? ⟨(ad.add (k * 3)).block,(ad.add (k * 3)).off+(0+1),none⟩=some (.int .i64 x.k)∧w'.cell? ⟨(ad.add (k * 3)).block,(ad.add (k * 3)).off+(1+1),none⟩=some (.int .i64 x.l))∧(w'.cell? (bd.add (k * 3))=some (.string y.s)∧w'.cell? ⟨(bd.add (k * 3)).block,(bd.add (k * 3)).off+(0+1),none⟩=some (.int .i64 y.k)∧w'.cell? ⟨(bd.add (k * 3)).block,(bd.add (k * 3)).off+(1+1),none⟩=some (.int .i64 y.l))) (by kernel_rfl) (by kernel_rfl) ⟨HB.drew,⟨c0,c1,c2⟩,d0,d1,d2⟩ ?_
     clear HB c0 c1 c2 d0 d1 d2
     repeat (first
      |(refine' RW.val (by rfl) ?_ ?_;rotate_left;(focus (intro w' hS;obtain⟨HB,⟨c0,c1,c2⟩,d0,d1,d2⟩:=hS;go_simp;rfl));simp only[Act.put,J1,J3,J2])
      |(refine RW.off (by rfl) ?_;simp only[Act.put,J1,J3,J2]))
     refine RW.done (fun w' hS=>?_)
     obtain⟨HB,⟨c0,c1,c2⟩,d0,d1,d2⟩:=hS
     go_wp2
     go_ret
     exact⟨rfl,HB⟩
    ·obtain rfl:r=false:=by
      rw[←HR.out];simp[sameFB];intro e
      have h1:=HX.out;rw[e,HY.out] at h1;exact hne (Jj h1).symm
     clear hne hall
     refine RW.start (fun w'=>Below w.heap.size w w'∧(w'.cell? (ad.add (k * 3))=some (.string x.s)∧w'.cell? ⟨(ad.add (k * 3)).block,(ad.add (k * 3)).off+(0+1),none⟩=some (.int .i64 x.k)∧w'.cell? ⟨(ad.add (k * 3)).block,(ad.add (k * 3)).off+(1+1),none⟩=some (.int .i64 x.l))∧(w'.cell? (bd.add (k * 3))=some (.string y.s)∧w'.cell? ⟨(bd.add (k * 3)).block,(bd.add (k * 3)).off+(0+1),none⟩=some (.int .i64 y.k)∧w'.cell? ⟨(bd.add (k * 3)).block,(bd.add (k * 3)).off+(1+1),none⟩=some (.int .i64 y.l))) (by kernel_rfl) (by kernel_rfl) ⟨HB.drew,⟨c0,c1,c2⟩,d0,d1,d2⟩ ?_
     clear HB c0 c1 c2 d0 d1 d2
     repeat (first
      |(refine' RW.val (by rfl) ?_ ?_;rotate_left;(focus (intro w' hS;obtain⟨HB,⟨c0,c1,c2⟩,d0,d1,d2⟩:=hS;go_simp;rfl));simp only[Act.put,J1,J3,J2])
      |(refine RW.off (by rfl) ?_;simp only[Act.put,J1,J3,J2]))
     refine RW.done (fun w' hS=>?_)
     obtain⟨HB,⟨c0,c1,c2⟩,d0,d1,d2⟩:=hS
     go_wp2
     go_ret
     exact⟨rfl,HB⟩
    ·obtain rfl:r=false:=by
      rw[←HR.out];simp[sameFB];intro e
      have h1:=HX.out;rw[e,HY.out] at h1;exact hne (Jj h1).symm
     clear hne hall
     refine RW.start (fun w'=>Below w.heap.size w w'∧(w'.cell? (ad.add (k * 3))=some (.string x.s)∧w'.cell? ⟨(ad.add (k * 3)).block,(ad.add (k * 3)).off+(0+1),none⟩=some (.int .i64 x.k)∧w'.cell? ⟨(ad.add (k * 3)).block,(ad.add (k * 3)).off+(1+1),none⟩=some (.int .i64 x.l))∧(w'.cell? (bd.add (k * 3))=some (.string y.s)∧w'.cell? ⟨(bd.add (k * 3)).block,(bd.add (k * 3)).off+(0+1),none⟩=some (.int .i64 y.k)∧w'.cell? ⟨(bd.add (k * 3)).block,(bd.add (k * 3)).off+(1+1),none⟩=some (.int .i64 y.l))) (by kernel_rfl) (by kernel_rfl) ⟨HB.drew,⟨c0,c1,c2⟩,d0,d1,d2⟩ ?_
     clear HB c0 c1 c2 d0 d1 d2
     repeat (first
      |(refine' RW.val (by rfl) ?_ ?_;rotate_left;(focus (intro w' hS;obtain⟨HB,⟨c0,c1,c2⟩,d0,d1,d2⟩:=hS;go_simp;rfl));simp only[Act.put,J1,J3,J2])
      |(refine RW.off (by rfl) ?_;simp only[Act.put,J1,J3,J2]))
     refine RW.done (fun w' hS=>?_)
     obtain⟨HB,⟨c0,c1,c2⟩,d0,d1,d2⟩:=hS
     go_wp2
     go_ret
     exact⟨rfl,HB⟩
    ·have hall2:Hid (a.take (k+1)=b.take (k+1)):=J0 (by rw[Vq,Vq,hall.out,HX.out,HY.out,he])
     clear he hall
     refine RW.start (fun w'=>Below w.heap.size w w'∧(w'.cell? (ad.add (k * 3))=some (.string x.s)∧w'.cell? ⟨(ad.add (k * 3)).block,(ad.add (k * 3)).off+(0+1),none⟩=some (.int .i64 x.k)∧w'.cell? ⟨(ad.add (k * 3)).block,(ad.add (k * 3)).off+(1+1),none⟩=some (.int .i64 x.l))∧(w'.cell? (bd.add (k * 3))=some (.string y.s)∧w'.cell? ⟨(bd.add (k * 3)).block,(bd.add (k * 3)).off+(0+1),none⟩=some (.int .i64 y.k)∧w'.cell? ⟨(bd.add (k * 3)).block,(bd.add (k * 3)).off+(1+1),none⟩=some (.int .i64 y.l))) (by kernel_rfl) (by kernel_rfl) ⟨HB.drew,⟨c0,c1,c2⟩,d0,d1,d2⟩ ?_
     clear HB c0 c1 c2 d0 d1 d2
     repeat (first
      |(refine' RW.val (by rfl) ?_ ?_;rotate_left;(focus (intro w' hS;obtain⟨HB,⟨c0,c1,c2⟩,d0,d1,d2⟩:=hS;go_simp;rfl));simp only[Act.put,J1,J3,J2])
      |(refine RW.off (by rfl) ?_;simp only[Act.put,J1,J3,J2]))
     refine RW.done (fun w' hS=>?_)
     obtain⟨HB,⟨c0,c1,c2⟩,d0,d1,d2⟩:=hS
     go_wp2
     go_roundw
     case rel=>exact⟨k+1,by omega,by go_num,HB,hall2⟩
     case measure=>simp[intOf];omega
   ·obtain rfl:k=a.length:=by omega
    obtain rfl:r=true:=by
     rw[←HR.out];have h:=hall.out
     rw[List.take_length,HL.out,List.take_length] at h
     simpa[sameFB] using h
    clear hAr hBr
    go_wp2
    go_ret
    exact⟨rfl,HB⟩
 ·have hz:((a.length:Int) != (b.length:Int))=true:=by simp;omega
  have hr:sameFB a b=false:=by simp[sameFB];intro e;exact hlen (by rw[e])
  rw[hr]
  clear hr hlen
  go_enter Tryz.func22,Tryz.ntmps22
  go_wp2
  go_ret
  exact⟨rfl,Jy _ _⟩
theorem Right_m (A:Option Addr) (c m:Nat) (fs:List Fd) (hm:fs.length=m) (r:Bool) (h:rightF fs=r) (w:World) (hA:Rd w A (cellsF fs)) (hl:m≤9223372036854775807):
 Calls Tryz.prog 62 #[.slice A m c] w fun e w'=>e=.returned (.bool r)∧Below w.heap.size w w':=by subst hm;exact FRight_is A c fs r h w hA hl
theorem rRight_m (A:Option Addr) (c m:Nat) (fs:List Fd) (hm:fs.length=m) (r:Bool) (h:rightF fs=r) (w:World) (hA:Rd w A (cellsF fs)) (hl:m≤9223372036854775807) (hs:∀f∈fs,f.s.size≤9223372036854775807):
 Calls Tryz.prog 77 #[.slice A m c] w fun e w'=>e=.returned (.bool r)∧Below w.heap.size w w':=by subst hm;exact rFRight_is A c fs r h w hA hl hs
theorem Layout_m (A:Option Addr) (c m:Nat) (fs:List Fd) (hm:fs.length=m) (z:Nat) (hz:sizeF fs=z) (ls:List Nat) (hls:layL fs=ls) (n:Nat) (hn:ls.length=n) (w:World) (hA:Rd w A (cellsF fs)) (hl:m≤9223372036854775807):
 Calls Tryz.prog 70 #[.slice A m c] w fun e w'=>∃B c',e=.returned (.tuple #[.slice B n c',.int .i64 (z:Nat)])∧Rd w' B (intsV ls)∧Below w.heap.size w w':=by
 subst hm hls hn
 refine(Layout_is A c fs z hz w hA hl).mono ?_
 rintro e w' ⟨B,m,c',rfl,rfl,hr,hb⟩
 exact⟨B,c',rfl,hr,hb⟩
theorem rLayout_m (A:Option Addr) (c m:Nat) (fs:List Fd) (hm:fs.length=m) (z:Nat) (hz:sizeF fs=z) (ls:List Nat) (hls:layL fs=ls) (n:Nat) (hn:ls.length=n) (w:World) (hA:Rd w A (cellsF fs)) (hl:m≤9223372036854775807) (hs:∀f∈fs,f.s.size≤9223372036854775807):
 Calls Tryz.prog 76 #[.slice A m c] w fun e w'=>∃B c',e=.returned (.tuple #[.slice B n c',.int .i64 (z:Nat)])∧Rd w' B (intsV ls)∧Below w.heap.size w w':=by
 subst hm hls hn
 refine(rLayout_is A c fs z hz w hA hl hs).mono ?_
 rintro e w' ⟨B,m,c',rfl,rfl,hr,hb⟩
 exact⟨B,c',rfl,hr,hb⟩
theorem New_m (A:Option Addr) (c m:Nat) (fs:List Fd) (hm:fs.length=m) (z:Nat) (hz:sizeF fs=z) (w:World) (hA:Rd w A (cellsF fs)) (hl:m≤9223372036854775807):
 Calls Tryz.prog 73 #[.slice A m c] w fun e w'=>∃B c',e=.returned (.slice B z c')∧z≤c'∧Rd w' B (bytesV (List.replicate z 0))∧Below w.heap.size w w':=by
 subst hm hz
 refine(New_calls A c fs w hA hl).mono ?_
 rintro e w' ⟨v,rfl,⟨B,c',rfl,hc,hr⟩,hb⟩
 rw[List.length_replicate] at *
 exact⟨B,c',rfl,hc,hr,hb⟩
theorem Find_m (A:Option Addr) (c m:Nat) (fs:List Fd) (hm:fs.length=m) (nm:ByteArray) (r:Int) (h:findZ fs nm=r) (w:World) (hA:Rd w A (cellsF fs)) (hl:m≤9223372036854775807):
 Calls Tryz.prog 96 #[.slice A m c,.string nm] w fun e w'=>e=.returned (.int .i64 r)∧Below w.heap.size w w':=by subst hm;exact Find_is A c fs nm r h w hA hl
theorem rFind_m (A:Option Addr) (c m:Nat) (fs:List Fd) (hm:fs.length=m) (nm:ByteArray) (r:Int) (h:findZ fs nm=r) (w:World) (hA:Rd w A (cellsF fs)) (hl:m≤9223372036854775807):
 Calls Tryz.prog 114 #[.slice A m c,.string nm] w fun e w'=>e=.returned (.int .i64 r)∧w=w':=by subst hm;exact rFind_is A c fs nm r h w hA hl
theorem Get_m (Ab:Option Addr) (nb cb:Nat) (b:List UInt8) (hb0:b.length=nb) (A:Option Addr) (c m:Nat) (fs:List Fd) (hm:fs.length=m) (nm:ByteArray) (v:Vl) (hv:getV b fs nm=v) (q:Int) (hq:getE b fs nm=q) (w:World) (hA:Rd w A (cellsF fs)) (hl:m≤9223372036854775807) (hb:Rd w Ab (bytesV b)) (hcb:nb≤cb):
 Calls Tryz.prog 71 #[.slice Ab nb cb,.slice A m c,.string nm] w fun e w'=>e=.returned (.tuple #[.agg #[.int .i64 v.k,.int .u64 v.b,.string v.t],.int .i64 q])∧Below w.heap.size w w':=by
 subst hb0 hm hv hq;exact Get_calls Ab cb b A c fs nm w hA hl hb hcb
theorem rGet_m (s:ByteArray) (b:List UInt8) (hsb:bl s=b) (A:Option Addr) (c m:Nat) (fs:List Fd) (hm:fs.length=m) (nm:ByteArray) (v:Vl) (hv:getV b fs nm=v) (q:Int) (hq:getE b fs nm=q) (w:World) (hA:Rd w A (cellsF fs)) (hl:m≤9223372036854775807) (hs:∀f∈fs,f.s.size≤9223372036854775807):
 Calls Tryz.prog 78 #[.string s,.slice A m c,.string nm] w fun e w'=>e=.returned (.tuple #[.agg #[.int .i64 v.k,.int .u64 v.b,.string v.t],.int .i64 q])∧Below w.heap.size w w':=by
 subst hm hv hq hsb;exact rGet_calls s A c fs nm w hA hl hs
theorem Set_m (Ab:Option Addr) (nb cb:Nat) (b:List UInt8) (hb0:b.length=nb) (A:Option Addr) (c m:Nat) (fs:List Fd) (hm:fs.length=m) (nm:ByteArray) (k u:Int) (t:ByteArray) (h0:0≤u) (h1:u<18446744073709551616) (x:List UInt8) (hx:setB b fs nm ⟨k,u,t⟩=x) (n:Nat) (hn:x.length=n) (q:Int) (hq:setE b fs nm ⟨k,u,t⟩=q) (w:World) (hA:Rd w A (cellsF fs)) (hl:m≤9223372036854775807) (hb:Rd w Ab (bytesV b)):
 Calls Tryz.prog 75 #[.slice Ab nb cb,.slice A m c,.string nm,.agg #[.int .i64 k,.int .u64 u,.string t]] w fun e w'=>∃B c',e=.returned (.tuple #[.slice B n c',.int .i64 q])∧n≤c'∧Rd w' B (bytesV x)∧Below w.heap.size w w':=by
 subst hb0 hm hx hq hn
 refine(Set_calls Ab cb b A c fs nm ⟨k,u,t⟩ h0 h1 w hA hl hb).mono ?_
 rintro e w' ⟨v,rfl,⟨B,c',rfl,hc,hr⟩,hb⟩
 exact⟨B,c',rfl,hc,hr,hb⟩
theorem rSet_m (s:ByteArray) (b:List UInt8) (hsb:bl s=b) (A:Option Addr) (c m:Nat) (fs:List Fd) (hm:fs.length=m) (nm:ByteArray) (k u:Int) (t:ByteArray) (h0:0≤u) (h1:u<18446744073709551616) (x:ByteArray) (hx:strL (setB b fs nm ⟨k,u,t⟩)=x) (q:Int) (hq:setE b fs nm ⟨k,u,t⟩=q) (w:World) (hA:Rd w A (cellsF fs)) (hl:m≤9223372036854775807) (hs:∀f∈fs,f.s.size≤9223372036854775807):
 Calls Tryz.prog 120 #[.string s,.slice A m c,.string nm,.agg #[.int .i64 k,.int .u64 u,.string t]] w fun e w'=>e=.returned (.tuple #[.string x,.int .i64 q])∧Below w.heap.size w w':=by
 subst hm hx hq hsb;exact rSet_calls s A c fs nm ⟨k,u,t⟩ h0 h1 w hA hl hs
theorem Encode_m (A:Option Addr) (c m:Nat) (fs:List Fd) (hm:fs.length=m) (x:List UInt8) (hx:wrL fs=x) (n:Nat) (hn:x.length=n) (q:Int) (hq:wrE fs=q) (w:World) (hA:Rd w A (cellsF fs)) (hl:m≤9223372036854775807):
 Calls Tryz.prog 60 #[.slice A m c] w fun e w'=>∃B c',e=.returned (.tuple #[.slice B n c',.int .i64 q])∧n≤c'∧Rd w' B (bytesV x)∧Below w.heap.size w w':=by
 subst hm hx hq hn
 refine(FEncode_calls A c fs w hA hl).mono ?_
 rintro e w' ⟨v,rfl,⟨B,c',rfl,hc,hr⟩,hb⟩
 exact⟨B,c',rfl,hc,hr,hb⟩
theorem Same6_m (A B:Option Addr) (c d m n:Nat) (a b:List Fd) (ha:a.length=m) (hb:b.length=n) (r:Bool) (hr:sameFB a b=r) (w:World) (hA:Rd w A (cellsF a)) (hB:Rd w B (cellsF b)) (hm:m≤9223372036854775807) (hn:n≤9223372036854775807):
 Calls Tryz.prog 22 #[.slice A m c,.slice B n d] w fun e w'=>e=.returned (.bool r)∧Below w.heap.size w w':=by
 subst ha hb hr;exact rSame_calls A B c d a b w hA hB hm hn
def X0:List UInt8:=[0,0,0,0,2,1,0,0,0,0,0,0,0,0,0,0,0,0,0,0,0,0,0,0]
theorem rightF_ok {fs:List Fd} (hr:rightF fs=true) {k:Nat} {f:Fd} (hf:fs[k]?=some f):nameB f.s=true∧mayB f.k f.l=true∧findZ fs f.s=k:=by
 simp only[rightF,Qy,decide_eq_true_eq] at hr
 obtain⟨h1,h2⟩:=J6.1 hf
 have:=hr.1 k h1
 rw[h2] at this
 simp only[okF,Qy,decide_eq_true_eq] at this
 exact⟨this.1.1,this.1.2,this.2⟩
theorem Cast_is (vk bits:Int) (tx s s2:ByteArray) (k l k2 l2:Int) (h0:0≤bits) (h1:bits<18446744073709551616) (v:Value) (q:Int) (hv:castV vk bits tx k l k2 l2=v) (hq:castE vk bits tx k l k2 l2=q) (w:World):
 Calls Tryz.prog 74 #[.agg #[.int .i64 vk,.int .u64 bits,.string tx],.agg #[.string s,.int .i64 k,.int .i64 l],.agg #[.string s2,.int .i64 k2,.int .i64 l2]] w fun e w'=>e=.returned (.tuple #[v,.int .i64 q])∧Below w.heap.size w w':=by
 subst hv hq;exact Cast_calls vk bits tx s s2 k l k2 l2 h0 h1 w
end
end Go.Proofs.YteembinfgbapgaaGreat
