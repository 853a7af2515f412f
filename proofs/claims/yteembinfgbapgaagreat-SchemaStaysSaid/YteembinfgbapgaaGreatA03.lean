/- Merged out of: Kg. -/
import Derived.Test.YteembinfgbapgaaGreatA02
set_option linter.unusedSimpArgs false
set_option linter.unusedVariables false
set_option maxRecDepth 100000
set_option maxHeartbeats 8000000
namespace Go.Proofs.YteembinfgbapgaaGreat
section
open Go.RowKit
theorem Sign_is (n width:Int) (h0:0≤n) (h1:n<18446744073709551616) (r:Int) (h:signZ n width=r) (w:World):Calls Tryz.prog 126 #[.int .u64 n,.int .i64 width] w fun e w'=>e=.returned (.int .u64 r)∧w=w':=h▸Sign_calls n width h0 h1 w
theorem signed_is (k:Int) (r:Bool) (h:btw 5 k 8=r) (w:World):Calls Tryz.prog 111 #[.int .i64 k] w fun e w'=>e=.returned (.bool r)∧w=w':=h▸signed_calls k w
theorem Long_eq (s:ByteArray) (k l:Int) (r:Int) (h:longZ k l=r) (w:World):Calls Tryz.prog 89 #[.agg #[.string s,.int .i64 k,.int .i64 l]] w fun e w'=>e=.returned (.int .i64 r)∧Below w.heap.size w w':=h▸Long_calls s k l w
def rawZ (l:List UInt8) (k long:Int):Int:=if k=12 then 0 else if (l.length:Int)=longZ k long∧widthB l.length=true then numL l else 0
def decZ (l:List UInt8) (k long:Int):Int:=if btw 5 k 8=true then signZ (rawZ l k long) l.length else rawZ l k long
def decT (l:List UInt8) (k:Int):ByteArray:=if k=12 then strL l else⟨#[]⟩
def decB (l:List UInt8) (k long:Int):Bool:=decide ((l.length:Int)=longZ k long) && rightB k (decZ l k long) (decT l k) k long
def decV (l:List UInt8) (k long:Int):Value:=if decB l k long=true then .agg #[.int .i64 k,.int .u64 (decZ l k long),.string (decT l k)] else .agg #[.int .i64 0,.int .u64 0,.string ⟨#[]⟩]
def decE (l:List UInt8) (k long:Int):Int:=if decB l k long=true then 0 else 50
theorem width_nat {n:Nat} (h:widthB n=true):n≤8:=by have:=width_cases h;omega
theorem rawZ_bd (l:List UInt8) (k long:Int):0≤rawZ l k long∧rawZ l k long<18446744073709551616:=by
 unfold rawZ
 split
 ·omega
 ·split
  ·rename_i h;exact numL_bd l (width_nat h.2)
  ·omega
theorem signZ_bd (n width:Int) (h0:0≤n) (h1:n<18446744073709551616):0≤signZ n width∧signZ n width<18446744073709551616:=by
 unfold signZ
 split
 ·rename_i h
  have ht:topZ width=256∨topZ width=65536∨topZ width=4294967296∨topZ width=18446744073709551616:=by unfold topZ;split <;> (try split) <;> (try split) <;> simp
  rcases ht with h|h|h|h <;> rw[h] <;> split <;> omega
 ·omega
theorem decZ_bd (l:List UInt8) (k long:Int):0≤decZ l k long∧decZ l k long<18446744073709551616:=by
 unfold decZ
 have:=rawZ_bd l k long
 split
 ·exact signZ_bd _ _ this.1 this.2
 ·exact this
theorem decV_ok {l:List UInt8} {k long:Int} (h:decB l k long=true):decV l k long=.agg #[.int .i64 k,.int .u64 (decZ l k long),.string (decT l k)]∧decE l k long=0:=by simp[decV,decE,h]
theorem decV_no {l:List UInt8} {k long:Int} (h:decB l k long=false):decV l k long=.agg #[.int .i64 0,.int .u64 0,.string ⟨#[]⟩]∧decE l k long=50:=by simp[decV,decE,h]
theorem Decode_12 (A:Option Addr) (c:Nat) (l:List UInt8) (s:ByteArray) (long:Int) (w:World) (hA:Rd w A (bytesV l)) (hl:l.length≤9223372036854775807):
 Calls Tryz.prog 88 #[.slice A l.length c,.agg #[.string s,.int .i64 12,.int .i64 long]] w fun e w'=>e=.returned (.tuple #[decV l 12 long,.int .i64 (decE l 12 long)])∧Below w.heap.size w w':=by
 obtain⟨r,hr⟩:∃r,rightB 12 0 (strL l) 12 long=r:=⟨_,rfl⟩
 have H:=Lib.hid hr
 have hz:decZ l 12 long=0:=by simp[decZ,rawZ,btw]
 have ht:decT l 12=strL l:=by simp[decT]
 have hd:decB l 12 long=(decide ((l.length:Int)=longZ 12 long) && r):=by rw[decB,hz,ht,hr]
 clear hr
 have hb0:Below w.heap.size w ((w.alloc (.cells #[.string s,.int .i64 12,.int .i64 long] 68)).alloc (.cells #[.int .i64 0,.int .u64 0,.string ⟨#[]⟩] 71)):=(below_new _).alloc (by simp) _
 have hcv:=fun o=>conv_str ((hA.below hb0).below (below_new o)) c
 clear hA
 by_cases hlen:(l.length:Int)=longZ 12 long
 ·have H2:=Lib.hid hlen
  cases r
  ·obtain⟨hv,he⟩:=decV_no (hd.trans (by simp))
   rw[hv,he]
   clear hd hz ht hv he hlen
   go_enter Tryz.func88,Tryz.ntmps88
   go_wp2_with (first
    |(go_at_call 111;refine(signed_is 12 false rfl _).mono ?_;rintro e w' ⟨rfl,rfl⟩)
    |(go_at_call 89;refine(Long_eq _ _ _ _ H2.out.symm _).mono ?_;rintro e w1 ⟨rfl,hb⟩;obtain⟨hc,hf⟩:=bcell hb;obtain⟨z0,z1,z2⟩:w.heap.size<w1.heap.size∧w.heap.size+1<w1.heap.size∧w.heap.size+1+1<w1.heap.size:=(by have hz_:=hb.size;(try simp at hz_);omega))
    |(go_at_call 95;refine(Right_is _ _ _ _ _ _ (by omega) (by omega) _ H.out _).mono ?_;rintro e w2 ⟨rfl,hb2⟩;obtain⟨hc2,hf2⟩:=bcell hb2;obtain⟨y0,y1,y2⟩:w.heap.size<w2.heap.size∧w.heap.size+1<w2.heap.size∧w.heap.size+1+1<w2.heap.size:=(by have hz_:=hb2.size;(try simp at hz_);omega)))
   refine bodyPost_ret (v:=.tuple #[.agg #[.int .i64 0,.int .u64 0,.string ⟨#[]⟩],.int .i64 50]) (by simp[results,Tryz.results88,go_sem, *]) rfl ⟨rfl,?_⟩
   have hB1:=below_seq (hb0.alloc (by simp;omega) (.cells #[.int .i64 12,.int .u64 0,.string (strL l)] 71)) (below_seq hb hb2)
   repeat (first|exact hB1|refine Below.setCell ?_ (by dsimp only;omega) _|refine Below.alloc ?_ (by simp;omega) _)
  ·obtain⟨hv,he⟩:=decV_ok (hd.trans (by simpa using hlen))
   rw[hv,he,hz,ht]
   clear hd hz ht hv he hlen
   go_enter Tryz.func88,Tryz.ntmps88
   go_wp2_with (first
    |(go_at_call 111;refine(signed_is 12 false rfl _).mono ?_;rintro e w' ⟨rfl,rfl⟩)
    |(go_at_call 89;refine(Long_eq _ _ _ _ H2.out.symm _).mono ?_;rintro e w1 ⟨rfl,hb⟩;obtain⟨hc,hf⟩:=bcell hb;obtain⟨z0,z1,z2⟩:w.heap.size<w1.heap.size∧w.heap.size+1<w1.heap.size∧w.heap.size+1+1<w1.heap.size:=(by have hz_:=hb.size;(try simp at hz_);omega))
    |(go_at_call 95;refine(Right_is _ _ _ _ _ _ (by omega) (by omega) _ H.out _).mono ?_;rintro e w2 ⟨rfl,hb2⟩;obtain⟨hc2,hf2⟩:=bcell hb2;obtain⟨y0,y1,y2⟩:w.heap.size<w2.heap.size∧w.heap.size+1<w2.heap.size∧w.heap.size+1+1<w2.heap.size:=(by have hz_:=hb2.size;(try simp at hz_);omega)))
   refine bodyPost_ret (v:=.tuple #[.agg #[.int .i64 12,.int .u64 0,.string (strL l)],.int .i64 0]) (by simp[results,Tryz.results88,go_sem, *]) rfl ⟨rfl,?_⟩
   have hB1:=below_seq (hb0.alloc (by simp;omega) (.cells #[.int .i64 12,.int .u64 0,.string (strL l)] 71)) (below_seq hb hb2)
   repeat (first|exact hB1|refine Below.setCell ?_ (by dsimp only;omega) _|refine Below.alloc ?_ (by simp;omega) _)
 ·have hne:((l.length:Int) != longZ 12 long)=true:=by simpa using hlen
  obtain⟨hv,he⟩:=decV_no (hd.trans (by simp[hlen]))
  rw[hv,he]
  obtain⟨lz,hlz⟩:∃z,longZ 12 long=z:=⟨_,rfl⟩
  rw[hlz] at hne
  have H2:=Lib.hid hlz
  clear hd hz ht hv he hlen hlz
  go_enter Tryz.func88,Tryz.ntmps88
  go_wp2_with (first
   |(go_at_call 111;refine(signed_is 12 false rfl _).mono ?_;rintro e w' ⟨rfl,rfl⟩)
   |(go_at_call 89;refine(Long_eq _ _ _ _ H2.out _).mono ?_;rintro e w1 ⟨rfl,hb⟩;obtain⟨hc,hf⟩:=bcell hb;obtain⟨z0,z1,z2⟩:w.heap.size<w1.heap.size∧w.heap.size+1<w1.heap.size∧w.heap.size+1+1<w1.heap.size:=(by have hz_:=hb.size;(try simp at hz_);omega)))
  refine bodyPost_ret (v:=.tuple #[.agg #[.int .i64 0,.int .u64 0,.string ⟨#[]⟩],.int .i64 50]) (by simp[results,Tryz.results88,go_sem, *]) rfl ⟨rfl,?_⟩
  have hB1:=below_seq (hb0.alloc (by simp;omega) (.cells #[.int .i64 12,.int .u64 0,.string (strL l)] 71)) hb
  repeat (first|exact hB1|refine Below.setCell ?_ (by dsimp only;omega) _|refine Below.alloc ?_ (by simp;omega) _)
def getZ (l:List UInt8):Int:=if widthB l.length=true then numL l else 0
theorem getZ_bd (l:List UInt8):0≤getZ l∧getZ l<18446744073709551616:=by
 unfold getZ;split
 ·rename_i h;exact numL_bd l (width_nat h)
 ·omega
theorem Get_all (A:Option Addr) (c:Nat) (l:List UInt8) (w:World) (hA:Rd w A (bytesV l)) (hl:l.length≤9223372036854775807):
 Calls Tryz.prog 86 #[.slice A l.length c,.int .i64 0,.int .i64 (l.length:Int)] w fun e w'=>e=.returned (.tuple #[.int .u64 (getZ l),.bool (widthB l.length)])∧Below w.heap.size w w':=by
 by_cases h:widthB l.length=true
 ·have:=Get_some A c l 0 l.length w hA (width_nat h) h (by omega) hl
  simpa[getZ,h] using this
 ·rw[Bool.not_eq_true] at h
  have:=Get_none A l.length c 0 l.length w hl (.inl h)
  simpa[getZ,h] using this
theorem Decode_eq (A:Option Addr) (c:Nat) (l:List UInt8) (s:ByteArray) (k long:Int) (hk:¬k=12) (hlen:(l.length:Int)=longZ k long) (w:World) (hA:Rd w A (bytesV l)) (hl:l.length≤9223372036854775807):
 Calls Tryz.prog 88 #[.slice A l.length c,.agg #[.string s,.int .i64 k,.int .i64 long]] w fun e w'=>e=.returned (.tuple #[decV l k long,.int .i64 (decE l k long)])∧Below w.heap.size w w':=by
 have hk':(k == 12)=false:=by simpa using hk
 have hraw:rawZ l k long=getZ l:=by rw[rawZ,if_neg hk,getZ];simp[hlen]
 have ht:decT l k=⟨#[]⟩:=by simp[decT,hk]
 have hb0:Below w.heap.size w ((w.alloc (.cells #[.string s,.int .i64 k,.int .i64 long] 68)).alloc (.cells #[.int .i64 0,.int .u64 0,.string ⟨#[]⟩] 71)):=(below_new _).alloc (by simp) _
 have hA0:=fun o=>((hA.below hb0).below (below_new o))
 obtain⟨g0,g1⟩:=getZ_bd l
 obtain⟨d0,d1⟩:=decZ_bd l k long
 obtain⟨r,hr⟩:∃r,rightB k (decZ l k long) ⟨#[]⟩ k long=r:=⟨_,rfl⟩
 have hd:decB l k long=r:=by rw[decB,ht,hr];simp[hlen]
 obtain⟨sg,hsg⟩:∃b,btw 5 k 8=b:=⟨_,rfl⟩
 obtain⟨z,hz⟩:∃z,decZ l k long=z:=⟨_,rfl⟩
 rw[hz] at hr d0 d1
 have hzs:if sg=true then signZ (getZ l) l.length=z else getZ l=z:=by rw[←hz,decZ,hraw,hsg];split <;> simp_all
 obtain⟨gz,hgz⟩:∃g,getZ l=g:=⟨_,rfl⟩
 rw[hgz] at hzs g0 g1
 have HG:=Lib.hid hgz
 have H2:=Lib.hid hlen
 have H:=Lib.hid hr
 have HS:=Lib.hid hsg
 have hzs':(sg=true→signZ gz l.length=z)∧(sg=false→gz=z):=by cases sg <;> simp_all
 obtain⟨hz1,hz2⟩:=hzs'
 clear hgz hraw hlen hr hsg hzs hA
 have HB:=hb0
 clear hb0
 have hB2:Below w.heap.size w w:=Below.refl _ _
 cases sg
 ·obtain rfl:=hz2 rfl
  have HZ:Hid (signZ gz l.length=signZ gz l.length):=Lib.hid rfl
  clear hz1 hz2
  cases r
  ·obtain⟨hv,he⟩:=decV_no hd
   rw[hv,he]
   clear hv he hd hz ht
   go_enter Tryz.func88,Tryz.ntmps88
   go_wp2_with (first
    |(go_at_call 111;refine(signed_is _ _ HS.out _).mono ?_;rintro e w' ⟨rfl,rfl⟩)
    |(go_at_call 126;refine(Sign_is _ _ g0 g1 _ HZ.out _).mono ?_;rintro e w' ⟨rfl,rfl⟩)
    |(go_at_call 86;refine(Get_all A c l _ ((hA0 _).below hb) hl).mono ?_;rw[HG.out];rintro e w3 ⟨rfl,hb3⟩;have hb:=hb3;obtain⟨hc,hf⟩:=bcell hb;obtain⟨x0,x1,x2⟩:w.heap.size<w3.heap.size∧w.heap.size+1<w3.heap.size∧w.heap.size+1+1<w3.heap.size:=(by have hz_:=hb.size;(try simp at hz_);omega);have n_:Below w.heap.size w _:=below_seq (by repeat (first|exact HB|refine Below.setCell ?_ (by dsimp only;omega) _|refine Below.alloc ?_ (by have hs_:=HB.size;first|(simp;done)|(simp;omega)|omega) _|apply Below.drew)) hb;clear HB;have HB:=n_;clear n_)
    |(go_at_call 89;refine(Long_eq _ _ _ _ H2.out.symm _).mono ?_;rintro e w1 ⟨rfl,hb⟩;obtain⟨hc,hf⟩:=bcell hb;obtain⟨z0,z1,z2⟩:w.heap.size<w1.heap.size∧w.heap.size+1<w1.heap.size∧w.heap.size+1+1<w1.heap.size:=(by have hz_:=hb.size;(try simp at hz_);omega);have n_:Below w.heap.size w _:=below_seq (by repeat (first|exact HB|refine Below.setCell ?_ (by dsimp only;omega) _|refine Below.alloc ?_ (by have hs_:=HB.size;first|(simp;done)|(simp;omega)|omega) _|apply Below.drew)) hb;clear HB;have HB:=n_;clear n_)
    |(go_at_call 95;refine(Right_is _ _ _ _ _ _ d0 d1 _ H.out _).mono ?_;rintro e w2 ⟨rfl,hb⟩;obtain⟨hc,hf⟩:=bcell hb;obtain⟨z0,z1,z2⟩:w.heap.size<w2.heap.size∧w.heap.size+1<w2.heap.size∧w.heap.size+1+1<w2.heap.size:=(by have hz_:=hb.size;(try simp at hz_);omega);have n_:Below w.heap.size w _:=below_seq (by repeat (first|exact HB|refine Below.setCell ?_ (by dsimp only;omega) _|refine Below.alloc ?_ (by have hs_:=HB.size;first|(simp;done)|(simp;omega)|omega) _|apply Below.drew)) hb;clear HB;have HB:=n_;clear n_))
   refine bodyPost_ret (v:=.tuple #[.agg #[.int .i64 0,.int .u64 0,.string ⟨#[]⟩],.int .i64 50]) (by simp[results,Tryz.results88,go_sem, *]) rfl ⟨rfl,?_⟩
   (repeat (first|exact HB|refine Below.setCell ?_ (by dsimp only;omega) _|refine Below.alloc ?_ (by have hs_:=HB.size;first|(simp;done)|(simp;omega)|omega) _|apply Below.drew))
  ·obtain⟨hv,he⟩:=decV_ok hd
   rw[hv,he,hz,ht]
   clear hv he hd hz ht
   go_enter Tryz.func88,Tryz.ntmps88
   go_wp2_with (first
    |(go_at_call 111;refine(signed_is _ _ HS.out _).mono ?_;rintro e w' ⟨rfl,rfl⟩)
    |(go_at_call 126;refine(Sign_is _ _ g0 g1 _ HZ.out _).mono ?_;rintro e w' ⟨rfl,rfl⟩)
    |(go_at_call 86;refine(Get_all A c l _ ((hA0 _).below hb) hl).mono ?_;rw[HG.out];rintro e w3 ⟨rfl,hb3⟩;have hb:=hb3;obtain⟨hc,hf⟩:=bcell hb;obtain⟨x0,x1,x2⟩:w.heap.size<w3.heap.size∧w.heap.size+1<w3.heap.size∧w.heap.size+1+1<w3.heap.size:=(by have hz_:=hb.size;(try simp at hz_);omega);have n_:Below w.heap.size w _:=below_seq (by repeat (first|exact HB|refine Below.setCell ?_ (by dsimp only;omega) _|refine Below.alloc ?_ (by have hs_:=HB.size;first|(simp;done)|(simp;omega)|omega) _|apply Below.drew)) hb;clear HB;have HB:=n_;clear n_)
    |(go_at_call 89;refine(Long_eq _ _ _ _ H2.out.symm _).mono ?_;rintro e w1 ⟨rfl,hb⟩;obtain⟨hc,hf⟩:=bcell hb;obtain⟨z0,z1,z2⟩:w.heap.size<w1.heap.size∧w.heap.size+1<w1.heap.size∧w.heap.size+1+1<w1.heap.size:=(by have hz_:=hb.size;(try simp at hz_);omega);have n_:Below w.heap.size w _:=below_seq (by repeat (first|exact HB|refine Below.setCell ?_ (by dsimp only;omega) _|refine Below.alloc ?_ (by have hs_:=HB.size;first|(simp;done)|(simp;omega)|omega) _|apply Below.drew)) hb;clear HB;have HB:=n_;clear n_)
    |(go_at_call 95;refine(Right_is _ _ _ _ _ _ d0 d1 _ H.out _).mono ?_;rintro e w2 ⟨rfl,hb⟩;obtain⟨hc,hf⟩:=bcell hb;obtain⟨z0,z1,z2⟩:w.heap.size<w2.heap.size∧w.heap.size+1<w2.heap.size∧w.heap.size+1+1<w2.heap.size:=(by have hz_:=hb.size;(try simp at hz_);omega);have n_:Below w.heap.size w _:=below_seq (by repeat (first|exact HB|refine Below.setCell ?_ (by dsimp only;omega) _|refine Below.alloc ?_ (by have hs_:=HB.size;first|(simp;done)|(simp;omega)|omega) _|apply Below.drew)) hb;clear HB;have HB:=n_;clear n_))
   refine bodyPost_ret (v:=.tuple #[.agg #[.int .i64 k,.int .u64 gz,.string ⟨#[]⟩],.int .i64 0]) (by simp[results,Tryz.results88,go_sem, *]) rfl ⟨rfl,?_⟩
   (repeat (first|exact HB|refine Below.setCell ?_ (by dsimp only;omega) _|refine Below.alloc ?_ (by have hs_:=HB.size;first|(simp;done)|(simp;omega)|omega) _|apply Below.drew))
 ·have hss:=setCell_twice
  have HZ:=Lib.hid (hz1 rfl)
  clear hz1 hz2
  cases r
  ·obtain⟨hv,he⟩:=decV_no hd
   rw[hv,he]
   clear hv he hd hz ht
   go_enter Tryz.func88,Tryz.ntmps88
   go_wp2_with (first
    |(go_at_call 111;refine(signed_is _ _ HS.out _).mono ?_;rintro e w' ⟨rfl,rfl⟩)
    |(go_at_call 126;refine(Sign_is _ _ g0 g1 _ HZ.out _).mono ?_;rintro e w' ⟨rfl,rfl⟩)
    |(go_at_call 86;refine(Get_all A c l _ ((hA0 _).below hb) hl).mono ?_;rw[HG.out];rintro e w3 ⟨rfl,hb3⟩;have hb:=hb3;obtain⟨hc,hf⟩:=bcell hb;obtain⟨x0,x1,x2⟩:w.heap.size<w3.heap.size∧w.heap.size+1<w3.heap.size∧w.heap.size+1+1<w3.heap.size:=(by have hz_:=hb.size;(try simp at hz_);omega);have n_:Below w.heap.size w _:=below_seq (by repeat (first|exact HB|refine Below.setCell ?_ (by dsimp only;omega) _|refine Below.alloc ?_ (by have hs_:=HB.size;first|(simp;done)|(simp;omega)|omega) _|apply Below.drew)) hb;clear HB;have HB:=n_;clear n_)
    |(go_at_call 89;refine(Long_eq _ _ _ _ H2.out.symm _).mono ?_;rintro e w1 ⟨rfl,hb⟩;obtain⟨hc,hf⟩:=bcell hb;obtain⟨z0,z1,z2⟩:w.heap.size<w1.heap.size∧w.heap.size+1<w1.heap.size∧w.heap.size+1+1<w1.heap.size:=(by have hz_:=hb.size;(try simp at hz_);omega);have n_:Below w.heap.size w _:=below_seq (by repeat (first|exact HB|refine Below.setCell ?_ (by dsimp only;omega) _|refine Below.alloc ?_ (by have hs_:=HB.size;first|(simp;done)|(simp;omega)|omega) _|apply Below.drew)) hb;clear HB;have HB:=n_;clear n_)
    |(go_at_call 95;refine(Right_is _ _ _ _ _ _ d0 d1 _ H.out _).mono ?_;rintro e w2 ⟨rfl,hb⟩;obtain⟨hc,hf⟩:=bcell hb;obtain⟨z0,z1,z2⟩:w.heap.size<w2.heap.size∧w.heap.size+1<w2.heap.size∧w.heap.size+1+1<w2.heap.size:=(by have hz_:=hb.size;(try simp at hz_);omega);have n_:Below w.heap.size w _:=below_seq (by repeat (first|exact HB|refine Below.setCell ?_ (by dsimp only;omega) _|refine Below.alloc ?_ (by have hs_:=HB.size;first|(simp;done)|(simp;omega)|omega) _|apply Below.drew)) hb;clear HB;have HB:=n_;clear n_))
   refine bodyPost_ret (v:=.tuple #[.agg #[.int .i64 0,.int .u64 0,.string ⟨#[]⟩],.int .i64 50]) (by simp[results,Tryz.results88,go_sem, *]) rfl ⟨rfl,?_⟩
   (repeat (first|exact HB|refine Below.setCell ?_ (by dsimp only;omega) _|refine Below.alloc ?_ (by have hs_:=HB.size;first|(simp;done)|(simp;omega)|omega) _|apply Below.drew))
  ·obtain⟨hv,he⟩:=decV_ok hd
   rw[hv,he,hz,ht]
   clear hv he hd hz ht
   go_enter Tryz.func88,Tryz.ntmps88
   go_wp2_with (first
    |(go_at_call 111;refine(signed_is _ _ HS.out _).mono ?_;rintro e w' ⟨rfl,rfl⟩)
    |(go_at_call 126;refine(Sign_is _ _ g0 g1 _ HZ.out _).mono ?_;rintro e w' ⟨rfl,rfl⟩)
    |(go_at_call 86;refine(Get_all A c l _ ((hA0 _).below hb) hl).mono ?_;rw[HG.out];rintro e w3 ⟨rfl,hb3⟩;have hb:=hb3;obtain⟨hc,hf⟩:=bcell hb;obtain⟨x0,x1,x2⟩:w.heap.size<w3.heap.size∧w.heap.size+1<w3.heap.size∧w.heap.size+1+1<w3.heap.size:=(by have hz_:=hb.size;(try simp at hz_);omega);have n_:Below w.heap.size w _:=below_seq (by repeat (first|exact HB|refine Below.setCell ?_ (by dsimp only;omega) _|refine Below.alloc ?_ (by have hs_:=HB.size;first|(simp;done)|(simp;omega)|omega) _|apply Below.drew)) hb;clear HB;have HB:=n_;clear n_)
    |(go_at_call 89;refine(Long_eq _ _ _ _ H2.out.symm _).mono ?_;rintro e w1 ⟨rfl,hb⟩;obtain⟨hc,hf⟩:=bcell hb;obtain⟨z0,z1,z2⟩:w.heap.size<w1.heap.size∧w.heap.size+1<w1.heap.size∧w.heap.size+1+1<w1.heap.size:=(by have hz_:=hb.size;(try simp at hz_);omega);have n_:Below w.heap.size w _:=below_seq (by repeat (first|exact HB|refine Below.setCell ?_ (by dsimp only;omega) _|refine Below.alloc ?_ (by have hs_:=HB.size;first|(simp;done)|(simp;omega)|omega) _|apply Below.drew)) hb;clear HB;have HB:=n_;clear n_)
    |(go_at_call 95;refine(Right_is _ _ _ _ _ _ d0 d1 _ H.out _).mono ?_;rintro e w2 ⟨rfl,hb⟩;obtain⟨hc,hf⟩:=bcell hb;obtain⟨z0,z1,z2⟩:w.heap.size<w2.heap.size∧w.heap.size+1<w2.heap.size∧w.heap.size+1+1<w2.heap.size:=(by have hz_:=hb.size;(try simp at hz_);omega);have n_:Below w.heap.size w _:=below_seq (by repeat (first|exact HB|refine Below.setCell ?_ (by dsimp only;omega) _|refine Below.alloc ?_ (by have hs_:=HB.size;first|(simp;done)|(simp;omega)|omega) _|apply Below.drew)) hb;clear HB;have HB:=n_;clear n_))
   refine bodyPost_ret (v:=.tuple #[.agg #[.int .i64 k,.int .u64 z,.string ⟨#[]⟩],.int .i64 0]) (by simp[results,Tryz.results88,go_sem, *]) rfl ⟨rfl,?_⟩
   (repeat (first|exact HB|refine Below.setCell ?_ (by dsimp only;omega) _|refine Below.alloc ?_ (by have hs_:=HB.size;first|(simp;done)|(simp;omega)|omega) _|apply Below.drew))
theorem Decode_ne (A:Option Addr) (c:Nat) (l:List UInt8) (s:ByteArray) (k long:Int) (hk:¬k=12) (hlen:¬(l.length:Int)=longZ k long) (w:World) (hl:l.length≤9223372036854775807):
 Calls Tryz.prog 88 #[.slice A l.length c,.agg #[.string s,.int .i64 k,.int .i64 long]] w fun e w'=>e=.returned (.tuple #[decV l k long,.int .i64 (decE l k long)])∧Below w.heap.size w w':=by
 have hk':(k == 12)=false:=by simpa using hk
 have hd:decB l k long=false:=by simp[decB,hlen]
 have HB:Below w.heap.size w ((w.alloc (.cells #[.string s,.int .i64 k,.int .i64 long] 68)).alloc (.cells #[.int .i64 0,.int .u64 0,.string ⟨#[]⟩] 71)):=(below_new _).alloc (by simp) _
 obtain⟨hv,he⟩:=decV_no hd
 rw[hv,he]
 obtain⟨sg,hsg⟩:∃b,btw 5 k 8=b:=⟨_,rfl⟩
 obtain⟨lz,hlz⟩:∃z,longZ k long=z:=⟨_,rfl⟩
 rw[hlz] at hlen
 have hne:((l.length:Int) != lz)=true:=by simpa using hlen
 have heq:((l.length:Int) == lz)=false:=by simpa using hlen
 have H2:=Lib.hid hlz
 have HS:=Lib.hid hsg
 have hss:=setCell_twice
 clear hv he hd hlen hlz hsg
 cases sg
 all_goals
  go_enter Tryz.func88,Tryz.ntmps88
  go_wp2_with (first
   |(go_at_call 111;refine(signed_is _ _ HS.out _).mono ?_;rintro e w' ⟨rfl,rfl⟩)
   |(go_at_call 126;refine(Sign_calls _ _ (by omega) (by omega) _).mono ?_;rintro e w' ⟨rfl,rfl⟩)
   |(go_at_call 89;refine(Long_eq _ _ _ _ H2.out _).mono ?_;rintro e w1 ⟨rfl,hb⟩;obtain⟨hc,hf⟩:=bcell hb;obtain⟨z0,z1,z2⟩:w.heap.size<w1.heap.size∧w.heap.size+1<w1.heap.size∧w.heap.size+1+1<w1.heap.size:=(by have hz_:=hb.size;(try simp at hz_);omega);have n_:Below w.heap.size w _:=below_seq (by repeat (first|exact HB|refine Below.setCell ?_ (by dsimp only;omega) _|refine Below.alloc ?_ (by have hs_:=HB.size;first|(simp;done)|(simp;omega)|omega) _|apply Below.drew)) hb;clear HB;have HB:=n_;clear n_))
  refine bodyPost_ret (v:=.tuple #[.agg #[.int .i64 0,.int .u64 0,.string (⟨#[]⟩:ByteArray)],.int .i64 50]) (by simp[results,Tryz.results88,go_sem, *]) rfl ⟨rfl,?_⟩
  (repeat (first|exact HB|refine Below.setCell ?_ (by dsimp only;omega) _|refine Below.alloc ?_ (by have hs_:=HB.size;first|(simp;done)|(simp;omega)|omega) _|apply Below.drew))
theorem Decode_calls (A:Option Addr) (c:Nat) (l:List UInt8) (s:ByteArray) (k long:Int) (w:World) (hA:Rd w A (bytesV l)) (hl:l.length≤9223372036854775807):
 Calls Tryz.prog 88 #[.slice A l.length c,.agg #[.string s,.int .i64 k,.int .i64 long]] w fun e w'=>e=.returned (.tuple #[decV l k long,.int .i64 (decE l k long)])∧Below w.heap.size w w':=by
 by_cases hk:k=12
 ·subst hk;exact Decode_12 A c l s long w hA hl
 ·by_cases hlen:(l.length:Int)=longZ k long
  ·exact Decode_eq A c l s k long hk hlen w hA hl
  ·exact Decode_ne A c l s k long hk hlen w hl
end
end Go.Proofs.YteembinfgbapgaaGreat
