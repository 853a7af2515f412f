/- Merged out of: Gt Gv Gw Ha Kn Kp Kq. -/
import Derived.Test.YteembinfgbapgaaGreatA08
import Derived.Test.YteembinfgbapgaaGreatA06
import Derived.Deep.DeepCutAuto
set_option linter.unusedSimpArgs false
set_option linter.unusedVariables false
set_option maxRecDepth 100000
set_option maxHeartbeats 8000000
namespace Go.Proofs.YteembinfgbapgaaGreat
section
open Go.RowKit
theorem rPut1_is (n:Int) (h0:0≤n) (h1:n<256) (p:ByteArray) (hp:strL [UInt8.ofNat n.toNat]=p) (w:World):Calls Tryz.prog 83 #[.int .i64 1,.int .u64 n] w fun e w'=>e=.returned (.string p)∧Below w.heap.size w w':=by
 have:=rPut_calls n 1 (by omega) h0 (by omega) w
 have e:putL n 1=[UInt8.ofNat n.toNat]:=by
  have hf:fitsB n 1 false=true:=by simp[fitsB,widthB,topZ];omega
  rw[show ((1:Nat):Int)=1 from rfl] at *
  rw[putL]
  rw[show ((1:Nat):Int)=1 from rfl,if_pos hf]
  simp[leL,byteZ]
  congr 2
  omega
 rw[e,hp] at this
 exact this
theorem rFEncode_no (A:Option Addr) (c:Nat) (fs:List Fd) (hr:rightF fs=false) (w:World) (hA:Rd w A (cellsF fs)) (hl:fs.length≤9223372036854775807) (hs:∀f∈fs,f.s.size≤9223372036854775807):
 Calls Tryz.prog 123 #[.slice A fs.length c] w fun e w'=>e=.returned (.tuple #[.string ⟨#[]⟩,.int .i64 60])∧Below w.heap.size w w':=by
 have HR:=Lib.hid hr
 clear hr
 go_enter Tryz.func123,Tryz.ntmps123
 go_wp2_with (go_at_call 77;refine(rFRight_is _ _ _ _ HR.out _ hA hl hs).mono ?_;rintro e w1 ⟨rfl,hb1⟩)
 go_ret2
 exact⟨rfl,hb1⟩
theorem rFEncode_yes (A:Option Addr) (c:Nat) (fs:List Fd) (hr:rightF fs=true) (w:World) (hA:Rd w A (cellsF fs)) (hl:fs.length≤9223372036854775807) (hs:∀f∈fs,f.s.size≤9223372036854775807):
 Calls Tryz.prog 123 #[.slice A fs.length c] w fun e w'=>e=.returned (.tuple #[.string (strL (encFL fs)),.int .i64 0])∧Below w.heap.size w w':=by
 obtain⟨hmay,h16⟩:=rightF_may hr
 have hnm:=fun f hf=>name_size (rightF_name hr (f:=f) hf)
 have HR:=Lib.hid hr
 have HP0:Hid (strL [UInt8.ofNat ((fs.length:Nat):Int).toNat]=strL (partF fs 0)):=Lib.hid (by simp[partF])
 clear hr
 go_enter Tryz.func123,Tryz.ntmps123
 go_wp2_with (first
  |(go_at_call 77;refine(rFRight_is _ _ _ _ HR.out _ hA hl hs).mono ?_;rintro e w1 ⟨rfl,hb1⟩)
  |(go_at_call 83;refine(rPut1_is (fs.length:Int) (by omega) (by omega) _ HP0.out _).mono ?_;rintro e w2 ⟨rfl,hb2⟩;have HB0:=hb1.trans (hb2.mono hb1.size)))
 go_loopw [4,5] (fun v i wr=>∃k:Nat,k≤fs.length∧i=.int .i64 k∧v=.string (strL (partF fs k))∧Below w.heap.size w wr) (fun _ i _=>fs.length - (intOf i).toNat)
 case atStart=>exact⟨0,by omega,rfl,rfl,HB0⟩
 case round=>
  obtain⟨k,hk,rfl,rfl,HB⟩:=hrel
  clear HB0 hb1 hb2
  have hAr:=hA.below HB
  by_cases hlt:k<fs.length
  ·obtain⟨f,hf⟩:∃f,fs[k]?=some f:=⟨_,List.getElem?_eq_getElem hlt⟩
   obtain⟨ad,rfl,c0,c1,c2⟩:=hAr.fld hf
   have hfm:=List.mem_of_getElem? hf
   obtain⟨n1,n2⟩:=hnm f hfm
   obtain⟨m1,m2,m3,m4⟩:=may_small (hmay f hfm)
   have hsucc:=partF_succ hf
   have hpl:(partF fs k).length≤400:=by
    have:=flat_length (fs.take k) (fun g hg=>(hnm g (List.mem_of_mem_take hg)).2)
    rw[List.length_take] at this
    simp only[partF,List.length_cons];omega
   obtain⟨acc,hacc⟩:∃a,strL (partF fs k)=a:=⟨_,rfl⟩
   have hal:acc.size≤400:=by rw[←hacc,strL_size];exact hpl
   obtain⟨p1,hp1⟩:∃p,strL [UInt8.ofNat ((f.s.size:Nat):Int).toNat]=p:=⟨_,rfl⟩
   obtain⟨p2,hp2⟩:∃p,strL [UInt8.ofNat f.k.toNat]=p:=⟨_,rfl⟩
   obtain⟨p3,hp3⟩:∃p,strL [UInt8.ofNat f.l.toNat]=p:=⟨_,rfl⟩
   have l1:p1.size=1:=by rw[←hp1,strL_size];rfl
   have l2:p2.size=1:=by rw[←hp2,strL_size];rfl
   have l3:p3.size=1:=by rw[←hp3,strL_size];rfl
   have hend:acc++p1++f.s++p2++p3=strL (partF fs (k+1)):=by
    rw[hsucc,←hacc,←hp1,←hp2,←hp3]
    conv=>lhs;rw[←strL_bl f.s]
    rw[strL_append,strL_append,strL_append,strL_append]
    congr 1
    simp[rowF,bl_strL,strL_bl]
   have z1:¬9223372036854775807<acc.size+p1.size:=by omega
   have z2:¬9223372036854775807<acc.size+p1.size+f.s.size:=by omega
   have z3:¬9223372036854775807<acc.size+p1.size+f.s.size+p2.size:=by omega
   have z4:¬9223372036854775807<acc.size+p1.size+f.s.size+p2.size+p3.size:=by omega
   rw[hacc]
   have b1:(0:Int)≤(f.s.size:Int):=by omega
   have b2:(f.s.size:Int)<256:=by omega
   have b4:f.k<256:=by omega
   have b6:f.l<256:=by omega
   have w1:IntKind.u64.wrap (f.s.size:Int)=(f.s.size:Int):=IntWalk.u64_in _ (by omega)
   have w2:IntKind.u64.wrap f.k=f.k:=IntWalk.u64_in _ (by omega)
   have w3:IntKind.u64.wrap f.l=f.l:=IntWalk.u64_in _ (by omega)
   have P1:=Lib.hid hp1
   have P2:=Lib.hid hp2
   have P3:=Lib.hid hp3
   have HE:=Lib.hid hend
   have hi0:(0:Int)≤(k:Int):=by omega
   have hi2:(k:Int)<(fs.length:Int):=by omega
   clear hp1 hp2 hp3 hend hacc hsucc l1 l2 l3 hf hA hAr hs hfm hnm
   go_wp2
   refine RW.start (fun w'=>Below w.heap.size w w'∧w'.cell? (ad.add (k * 3))=some (.string f.s)∧w'.cell? ⟨(ad.add (k * 3)).block,(ad.add (k * 3)).off+(0+1),none⟩=some (.int .i64 f.k)∧w'.cell? ⟨(ad.add (k * 3)).block,(ad.add (k * 3)).off+(1+1),none⟩=some (.int .i64 f.l)) (by kernel_rfl) (by kernel_rfl) ⟨HB.drew,c0,c1,c2⟩ ?_
   clear HB c0 c1 c2
   repeat (first
    |(refine' RW.val (by rfl) ?_ ?_;rotate_left;(focus (intro w' hS;obtain⟨HB,c0,c1,c2⟩:=hS;go_simp;rfl));simp only[Act.put,List.setIfInBounds_toArray,List.set_cons_zero,List.set_cons_succ])
    |(refine RW.off (by rfl) ?_;simp only[Act.put,List.setIfInBounds_toArray,List.set_cons_zero,List.set_cons_succ])
    |(refine' RW.call (by rfl) ?_ ?_ ?_
      rotate_left 3
      (focus (intro w' hS;obtain⟨HB,c0,c1,c2⟩:=hS;go_simp;exact⟨rfl,rfl⟩))
      (focus
        intro w' hS
        obtain⟨HB,c0,c1,c2⟩:=hS
        first
         |((with_reducible refine(rPut1_is (f.s.size:Int) b1 b2 _ P1.out _).mono ?_);rintro e w1 ⟨rfl,hb⟩;exact⟨rfl,⟨(below_seq HB hb),(cell_below (B:=0) hb c0),(cell_below (B:=0) hb c1),(cell_below (B:=0) hb c2)⟩⟩)
         |((with_reducible refine(rPut1_is f.k m1 b4 _ P2.out _).mono ?_);rintro e w1 ⟨rfl,hb⟩;exact⟨rfl,⟨(below_seq HB hb),(cell_below (B:=0) hb c0),(cell_below (B:=0) hb c1),(cell_below (B:=0) hb c2)⟩⟩)
         |((with_reducible refine(rPut1_is f.l m3 b6 _ P3.out _).mono ?_);rintro e w1 ⟨rfl,hb⟩;exact⟨rfl,⟨(below_seq HB hb),(cell_below (B:=0) hb c0),(cell_below (B:=0) hb c1),(cell_below (B:=0) hb c2)⟩⟩))
      simp only[Act.put,List.setIfInBounds_toArray,List.set_cons_zero,List.set_cons_succ]))
   refine RW.done (fun w' hS=>?_)
   obtain⟨HB,c0,c1,c2⟩:=hS
   clear w1 w2 w3
   go_wp2
   go_roundw
   case rel=>exact⟨k+1,by omega,by go_num,by rw[HE.out],HB⟩
   case measure=>simp[intOf];omega
  ·obtain rfl:k=fs.length:=by omega
   have e:partF fs fs.length=encFL fs:=by rw[partF,List.take_length];rfl
   rw[e]
   clear hA hAr e
   go_wp2
   go_ret2
   exact⟨rfl,HB⟩
theorem rFEncode_calls (A:Option Addr) (c:Nat) (fs:List Fd) (w:World) (hA:Rd w A (cellsF fs)) (hl:fs.length≤9223372036854775807) (hs:∀f∈fs,f.s.size≤9223372036854775807):
 Calls Tryz.prog 123 #[.slice A fs.length c] w fun e w'=>e=.returned (.tuple #[.string (strL (wrL fs)),.int .i64 (wrE fs)])∧Below w.heap.size w w':=by
 cases hr:rightF fs
 ·have e1:wrL fs=[]:=by simp[wrL,hr]
  have e2:wrE fs=60:=by simp[wrE,hr]
  rw[e1,e2]
  exact rFEncode_no A c fs hr w hA hl hs
 ·have e1:wrL fs=encFL fs:=by simp[wrL,hr]
  have e2:wrE fs=0:=by simp[wrE,hr]
  rw[e1,e2]
  exact rFEncode_yes A c fs hr w hA hl hs
instance:DecidableEq Fd:=fun a b=>decidable_of_iff (a.s=b.s∧a.k=b.k∧a.l=b.l) (by cases a;cases b;simp)
def sameFB (a b:List Fd):Bool:=decide (a=b)
theorem toList_iff (a b:ByteArray):a.toList=b.toList↔a=b:=by
 constructor
 ·intro h
  simp only[ByteArray.toList_eq] at h
  have:a.data=b.data:=Array.toList_inj.1 h
  cases a;cases b;simp_all
 ·intro h;rw[h]
theorem fd_ways (x y:Fd):(¬x=y∧¬x.s.toList=y.s.toList)∨(¬x=y∧x.s.toList=y.s.toList∧¬x.k=y.k)∨(¬x=y∧x.s.toList=y.s.toList∧x.k=y.k∧¬x.l=y.l)∨(x=y∧x.s.toList=y.s.toList∧x.k=y.k∧x.l=y.l):=by
 simp only[toList_iff]
 have e:x=y↔x.s=y.s∧x.k=y.k∧x.l=y.l:=by cases x;cases y;simp
 rw[e]
 by_cases h1:x.s=y.s <;> by_cases h2:x.k=y.k <;> by_cases h3:x.l=y.l <;> simp[h1,h2,h3]
theorem rSame_calls (A B:Option Addr) (c d:Nat) (a b:List Fd) (w:World) (hA:Rd w A (cellsF a)) (hB:Rd w B (cellsF b)) (ha:a.length≤9223372036854775807) (hb:b.length≤9223372036854775807):
 Calls Tryz.prog 22 #[.slice A a.length c,.slice B b.length d] w fun e w'=>e=.returned (.bool (sameFB a b))∧Below w.heap.size w w':=by
 by_cases hlen:a.length=b.length
 ·have hz:((a.length:Int) != (b.length:Int))=false:=by rw[hlen];simp
  obtain⟨r,hr⟩:∃r,sameFB a b=r:=⟨_,rfl⟩
  rw[hr]
  have HR:=Lib.hid hr
  have HL:=Lib.hid hlen
  clear hr
  obtain⟨m,hm⟩:∃m,b.length=m:=⟨_,rfl⟩
  rw[hm] at hz hlen ⊢
  have HM:=Lib.hid hm
  clear hm hlen hb
  go_enter Tryz.func22,Tryz.ntmps22
  go_wp2
  go_loopw [5] (fun i wr=>∃k:Nat,k≤a.length∧i=.int .i64 k∧Below w.heap.size w wr∧Hid (a.take k=b.take k)) (fun i _=>a.length - (intOf i).toNat)
  case atStart=>exact⟨0,by omega,rfl,Below.refl _ _,Lib.hid rfl⟩
  case round=>
   obtain⟨k,hk,rfl,HB,hall⟩:=hrel
   have hAr:=hA.below HB
   have hBr:=hB.below HB
   clear hA hB
   by_cases hlt:k<a.length
   ·have hlb:k<m:=by have:=HL.out;have:=HM.out;omega
    obtain⟨x,hx⟩:∃x,a[k]?=some x:=⟨_,List.getElem?_eq_getElem hlt⟩
    obtain⟨y,hy⟩:∃y,b[k]?=some y:=⟨_,List.getElem?_eq_getElem (by rw[HM.out];exact hlb)⟩
    obtain⟨ad,rfl,c0,c1,c2⟩:=hAr.fld hx
    obtain⟨bd,rfl,d0,d1,d2⟩:=hBr.fld hy
    have HX:=Lib.hid hx
    have HY:=Lib.hid hy
    clear hx hy hAr hBr
    have hi0:(0:Int)≤(k:Int):=by omega
    have hi1:(k:Int)<(a.length:Int):=by omega
    have hi2:(k:Int)<(m:Int):=by omega
    go_wp2
    rcases fd_ways x y with ⟨hne,h1⟩|⟨hne,h1,h2⟩|⟨hne,h1,h2,h3⟩|⟨he,h1,h2,h3⟩
    ·obtain rfl:r=false:=by
      rw[←HR.out];simp[sameFB];intro e
      have h1:=HX.out;rw[e,HY.out] at h1;exact hne (Option.some.inj h1).symm
     clear hne hall
     refine RW.start (fun w'=>Below w.heap.size w w'∧(w'.cell? (ad.add (k * 3))=some (.string x.s)∧w'.cell? ⟨(ad.add (k * 3)).block,(ad.add (k * 3)).off+(0+1),none⟩=some (.int .i64 x.k)∧w'.cell? ⟨(ad.add (k * 3)).block,(ad.add (k * 3)).off+(1+1),none⟩=some (.int .i64 x.l))∧(w'.cell? (bd.add (k * 3))=some (.string y.s)∧w'.cell? ⟨(bd.add (k * 3)).block,(bd.add (k * 3)).off+(0+1),none⟩=some (.int .i64 y.k)∧w'.cell? ⟨(bd.add (k * 3)).block,(bd.add (k * 3)).off+(1+1),none⟩=some (.int .i64 y.l))) (by kernel_rfl) (by kernel_rfl) ⟨HB.drew,⟨c0,c1,c2⟩,d0,d1,d2⟩ ?_
     clear HB c0 c1 c2 d0 d1 d2
     repeat (first
      |(refine' RW.val (by rfl) ?_ ?_;rotate_left;(focus (intro w' hS;obtain⟨HB,⟨c0,c1,c2⟩,d0,d1,d2⟩:=hS;go_simp;rfl));simp only[Act.put,List.setIfInBounds_toArray,List.set_cons_zero,List.set_cons_succ])
      |(refine RW.off (by rfl) ?_;simp only[Act.put,List.setIfInBounds_toArray,List.set_cons_zero,List.set_cons_succ]))
     refine RW.done (fun w' hS=>?_)
     obtain⟨HB,⟨c0,c1,c2⟩,d0,d1,d2⟩:=hS
     go_wp2
     go_ret
     exact⟨rfl,HB⟩
    ·obtain rfl:r=false:=by
      rw[←HR.out];simp[sameFB];intro e
      have h1:=HX.out;rw[e,HY.out] at h1;exact hne (Option.some.inj h1).symm
     clear hne hall
     refine RW.start (fun w'=>Below w.heap.size w w'∧(w'.cell? (ad.add (k * 3))=some (.string x.s)∧w'.cell? ⟨(ad.add (k * 3)).block,(ad.add (k * 3)).off+(0+1),none⟩=some (.int .i64 x.k)∧w'.cell? ⟨(ad.add (k * 3)).block,(ad.add (k * 3)).off+(1+1),none⟩=some (.int .i64 x.l))∧(w'.cell? (bd.add (k * 3))=some (.string y.s)∧w'.cell? ⟨(bd.add (k * 3)).block,(bd.add (k * 3)).off+(0+1),none⟩=some (.int .i64 y.k)∧w'.cell? ⟨(bd.add (k * 3)).block,(bd.add (k * 3)).off+(1+1),none⟩=some (.int .i64 y.l))) (by kernel_rfl) (by kernel_rfl) ⟨HB.drew,⟨c0,c1,c2⟩,d0,d1,d2⟩ ?_
     clear HB c0 c1 c2 d0 d1 d2
     repeat (first
      |(refine' RW.val (by rfl) ?_ ?_;rotate_left;(focus (intro w' hS;obtain⟨HB,⟨c0,c1,c2⟩,d0,d1,d2⟩:=hS;go_simp;rfl));simp only[Act.put,List.setIfInBounds_toArray,List.set_cons_zero,List.set_cons_succ])
      |(refine RW.off (by rfl) ?_;simp only[Act.put,List.setIfInBounds_toArray,List.set_cons_zero,List.set_cons_succ]))
     refine RW.done (fun w' hS=>?_)
     obtain⟨HB,⟨c0,c1,c2⟩,d0,d1,d2⟩:=hS
     go_wp2
     go_ret
     exact⟨rfl,HB⟩
    ·obtain rfl:r=false:=by
      rw[←HR.out];simp[sameFB];intro e
      have h1:=HX.out;rw[e,HY.out] at h1;exact hne (Option.some.inj h1).symm
     clear hne hall
     refine RW.start (fun w'=>Below w.heap.size w w'∧(w'.cell? (ad.add (k * 3))=some (.string x.s)∧w'.cell? ⟨(ad.add (k * 3)).block,(ad.add (k * 3)).off+(0+1),none⟩=some (.int .i64 x.k)∧w'.cell? ⟨(ad.add (k * 3)).block,(ad.add (k * 3)).off+(1+1),none⟩=some (.int .i64 x.l))∧(w'.cell? (bd.add (k * 3))=some (.string y.s)∧w'.cell? ⟨(bd.add (k * 3)).block,(bd.add (k * 3)).off+(0+1),none⟩=some (.int .i64 y.k)∧w'.cell? ⟨(bd.add (k * 3)).block,(bd.add (k * 3)).off+(1+1),none⟩=some (.int .i64 y.l))) (by kernel_rfl) (by kernel_rfl) ⟨HB.drew,⟨c0,c1,c2⟩,d0,d1,d2⟩ ?_
     clear HB c0 c1 c2 d0 d1 d2
     repeat (first
      |(refine' RW.val (by rfl) ?_ ?_;rotate_left;(focus (intro w' hS;obtain⟨HB,⟨c0,c1,c2⟩,d0,d1,d2⟩:=hS;go_simp;rfl));simp only[Act.put,List.setIfInBounds_toArray,List.set_cons_zero,List.set_cons_succ])
      |(refine RW.off (by rfl) ?_;simp only[Act.put,List.setIfInBounds_toArray,List.set_cons_zero,List.set_cons_succ]))
     refine RW.done (fun w' hS=>?_)
     obtain⟨HB,⟨c0,c1,c2⟩,d0,d1,d2⟩:=hS
     go_wp2
     go_ret
     exact⟨rfl,HB⟩
    ·have hall2:Hid (a.take (k+1)=b.take (k+1)):=Lib.hid (by rw[List.take_add_one,List.take_add_one,hall.out,HX.out,HY.out,he])
     clear he hall
     refine RW.start (fun w'=>Below w.heap.size w w'∧(w'.cell? (ad.add (k * 3))=some (.string x.s)∧w'.cell? ⟨(ad.add (k * 3)).block,(ad.add (k * 3)).off+(0+1),none⟩=some (.int .i64 x.k)∧w'.cell? ⟨(ad.add (k * 3)).block,(ad.add (k * 3)).off+(1+1),none⟩=some (.int .i64 x.l))∧(w'.cell? (bd.add (k * 3))=some (.string y.s)∧w'.cell? ⟨(bd.add (k * 3)).block,(bd.add (k * 3)).off+(0+1),none⟩=some (.int .i64 y.k)∧w'.cell? ⟨(bd.add (k * 3)).block,(bd.add (k * 3)).off+(1+1),none⟩=some (.int .i64 y.l))) (by kernel_rfl) (by kernel_rfl) ⟨HB.drew,⟨c0,c1,c2⟩,d0,d1,d2⟩ ?_
     clear HB c0 c1 c2 d0 d1 d2
     repeat (first
      |(refine' RW.val (by rfl) ?_ ?_;rotate_left;(focus (intro w' hS;obtain⟨HB,⟨c0,c1,c2⟩,d0,d1,d2⟩:=hS;go_simp;rfl));simp only[Act.put,List.setIfInBounds_toArray,List.set_cons_zero,List.set_cons_succ])
      |(refine RW.off (by rfl) ?_;simp only[Act.put,List.setIfInBounds_toArray,List.set_cons_zero,List.set_cons_succ]))
     refine RW.done (fun w' hS=>?_)
     obtain⟨HB,⟨c0,c1,c2⟩,d0,d1,d2⟩:=hS
     go_wp2
     go_roundw
     case rel=>exact⟨k+1,by omega,by go_num,HB,hall2⟩
     case measure=>simp[intOf];omega
   ·obtain rfl:k=a.length:=by omega
    obtain rfl:r=true:=by
     rw[←HR.out];have h:=hall.out
     rw[List.take_length,HL.out,List.take_length] at h
     simpa[sameFB] using h
    clear hAr hBr
    go_wp2
    go_ret
    exact⟨rfl,HB⟩
 ·have hz:((a.length:Int) != (b.length:Int))=true:=by simp;omega
  have hr:sameFB a b=false:=by simp[sameFB];intro e;exact hlen (by rw[e])
  rw[hr]
  clear hr hlen
  go_enter Tryz.func22,Tryz.ntmps22
  go_wp2
  go_ret
  exact⟨rfl,Below.refl _ _⟩
theorem Right_m (A:Option Addr) (c m:Nat) (fs:List Fd) (hm:fs.length=m) (r:Bool) (h:rightF fs=r) (w:World) (hA:Rd w A (cellsF fs)) (hl:m≤9223372036854775807):
 Calls Tryz.prog 62 #[.slice A m c] w fun e w'=>e=.returned (.bool r)∧Below w.heap.size w w':=by subst hm;exact FRight_is A c fs r h w hA hl
theorem rRight_m (A:Option Addr) (c m:Nat) (fs:List Fd) (hm:fs.length=m) (r:Bool) (h:rightF fs=r) (w:World) (hA:Rd w A (cellsF fs)) (hl:m≤9223372036854775807) (hs:∀f∈fs,f.s.size≤9223372036854775807):
 Calls Tryz.prog 77 #[.slice A m c] w fun e w'=>e=.returned (.bool r)∧Below w.heap.size w w':=by subst hm;exact rFRight_is A c fs r h w hA hl hs
theorem Layout_m (A:Option Addr) (c m:Nat) (fs:List Fd) (hm:fs.length=m) (z:Nat) (hz:sizeF fs=z) (ls:List Nat) (hls:layL fs=ls) (n:Nat) (hn:ls.length=n) (w:World) (hA:Rd w A (cellsF fs)) (hl:m≤9223372036854775807):
 Calls Tryz.prog 70 #[.slice A m c] w fun e w'=>∃B c',e=.returned (.tuple #[.slice B n c',.int .i64 (z:Nat)])∧Rd w' B (intsV ls)∧Below w.heap.size w w':=by
 subst hm hls hn
 refine(Layout_is A c fs z hz w hA hl).mono ?_
 rintro e w' ⟨B,m,c',rfl,rfl,hr,hb⟩
 exact⟨B,c',rfl,hr,hb⟩
theorem New_m (A:Option Addr) (c m:Nat) (fs:List Fd) (hm:fs.length=m) (z:Nat) (hz:sizeF fs=z) (w:World) (hA:Rd w A (cellsF fs)) (hl:m≤9223372036854775807):
 Calls Tryz.prog 73 #[.slice A m c] w fun e w'=>∃B c',e=.returned (.slice B z c')∧z≤c'∧Rd w' B (bytesV (List.replicate z 0))∧Below w.heap.size w w':=by
 subst hm hz
 refine(New_calls A c fs w hA hl).mono ?_
 rintro e w' ⟨v,rfl,⟨B,c',rfl,hc,hr⟩,hb⟩
 rw[List.length_replicate] at *
 exact⟨B,c',rfl,hc,hr,hb⟩
theorem Find_m (A:Option Addr) (c m:Nat) (fs:List Fd) (hm:fs.length=m) (nm:ByteArray) (r:Int) (h:findZ fs nm=r) (w:World) (hA:Rd w A (cellsF fs)) (hl:m≤9223372036854775807):
 Calls Tryz.prog 96 #[.slice A m c,.string nm] w fun e w'=>e=.returned (.int .i64 r)∧Below w.heap.size w w':=by subst hm;exact Find_is A c fs nm r h w hA hl
theorem rFind_m (A:Option Addr) (c m:Nat) (fs:List Fd) (hm:fs.length=m) (nm:ByteArray) (r:Int) (h:findZ fs nm=r) (w:World) (hA:Rd w A (cellsF fs)) (hl:m≤9223372036854775807):
 Calls Tryz.prog 114 #[.slice A m c,.string nm] w fun e w'=>e=.returned (.int .i64 r)∧w=w':=by subst hm;exact rFind_is A c fs nm r h w hA hl
theorem Get_m (Ab:Option Addr) (nb cb:Nat) (b:List UInt8) (hb0:b.length=nb) (A:Option Addr) (c m:Nat) (fs:List Fd) (hm:fs.length=m) (nm:ByteArray) (v:Vl) (hv:getV b fs nm=v) (q:Int) (hq:getE b fs nm=q) (w:World) (hA:Rd w A (cellsF fs)) (hl:m≤9223372036854775807) (hb:Rd w Ab (bytesV b)) (hcb:nb≤cb):
 Calls Tryz.prog 71 #[.slice Ab nb cb,.slice A m c,.string nm] w fun e w'=>e=.returned (.tuple #[.agg #[.int .i64 v.k,.int .u64 v.b,.string v.t],.int .i64 q])∧Below w.heap.size w w':=by
 subst hb0 hm hv hq;exact Get_calls Ab cb b A c fs nm w hA hl hb hcb
theorem Set_m (Ab:Option Addr) (nb cb:Nat) (b:List UInt8) (hb0:b.length=nb) (A:Option Addr) (c m:Nat) (fs:List Fd) (hm:fs.length=m) (nm:ByteArray) (k u:Int) (t:ByteArray) (h0:0≤u) (h1:u<18446744073709551616) (x:List UInt8) (hx:setB b fs nm ⟨k,u,t⟩=x) (n:Nat) (hn:x.length=n) (q:Int) (hq:setE b fs nm ⟨k,u,t⟩=q) (w:World) (hA:Rd w A (cellsF fs)) (hl:m≤9223372036854775807) (hb:Rd w Ab (bytesV b)):
 Calls Tryz.prog 75 #[.slice Ab nb cb,.slice A m c,.string nm,.agg #[.int .i64 k,.int .u64 u,.string t]] w fun e w'=>∃B c',e=.returned (.tuple #[.slice B n c',.int .i64 q])∧n≤c'∧Rd w' B (bytesV x)∧Below w.heap.size w w':=by
 subst hb0 hm hx hq hn
 refine(Set_calls Ab cb b A c fs nm ⟨k,u,t⟩ h0 h1 w hA hl hb).mono ?_
 rintro e w' ⟨v,rfl,⟨B,c',rfl,hc,hr⟩,hb⟩
 exact⟨B,c',rfl,hc,hr,hb⟩
theorem Encode_m (A:Option Addr) (c m:Nat) (fs:List Fd) (hm:fs.length=m) (x:List UInt8) (hx:wrL fs=x) (n:Nat) (hn:x.length=n) (q:Int) (hq:wrE fs=q) (w:World) (hA:Rd w A (cellsF fs)) (hl:m≤9223372036854775807):
 Calls Tryz.prog 60 #[.slice A m c] w fun e w'=>∃B c',e=.returned (.tuple #[.slice B n c',.int .i64 q])∧n≤c'∧Rd w' B (bytesV x)∧Below w.heap.size w w':=by
 subst hm hx hq hn
 refine(FEncode_calls A c fs w hA hl).mono ?_
 rintro e w' ⟨v,rfl,⟨B,c',rfl,hc,hr⟩,hb⟩
 exact⟨B,c',rfl,hc,hr,hb⟩
theorem Same6_m (A B:Option Addr) (c d m n:Nat) (a b:List Fd) (ha:a.length=m) (hb:b.length=n) (r:Bool) (hr:sameFB a b=r) (w:World) (hA:Rd w A (cellsF a)) (hB:Rd w B (cellsF b)) (hm:m≤9223372036854775807) (hn:n≤9223372036854775807):
 Calls Tryz.prog 22 #[.slice A m c,.slice B n d] w fun e w'=>e=.returned (.bool r)∧Below w.heap.size w w':=by
 subst ha hb hr;exact rSame_calls A B c d a b w hA hB hm hn
def X0:List UInt8:=[0,0,0,0,2,1,0,0,0,0,0,0,0,0,0,0,0,0,0,0,0,0,0,0]
theorem rightF_ok {fs:List Fd} (hr:rightF fs=true) {k:Nat} {f:Fd} (hf:fs[k]?=some f):nameB f.s=true∧mayB f.k f.l=true∧findZ fs f.s=k:=by
 simp only[rightF,Bool.and_eq_true,decide_eq_true_eq] at hr
 obtain⟨h1,h2⟩:=List.getElem?_eq_some_iff.1 hf
 have:=hr.1 k h1
 rw[h2] at this
 simp only[okF,Bool.and_eq_true,decide_eq_true_eq] at this
 exact⟨this.1.1,this.1.2,this.2⟩
theorem Cast_is (vk bits:Int) (tx s s2:ByteArray) (k l k2 l2:Int) (h0:0≤bits) (h1:bits<18446744073709551616) (v:Value) (q:Int) (hv:castV vk bits tx k l k2 l2=v) (hq:castE vk bits tx k l k2 l2=q) (w:World):
 Calls Tryz.prog 74 #[.agg #[.int .i64 vk,.int .u64 bits,.string tx],.agg #[.string s,.int .i64 k,.int .i64 l],.agg #[.string s2,.int .i64 k2,.int .i64 l2]] w fun e w'=>e=.returned (.tuple #[v,.int .i64 q])∧Below w.heap.size w w':=by
 subst hv hq;exact Cast_calls vk bits tx s s2 k l k2 l2 h0 h1 w
theorem whole_parts (b:Int) (h0:0≤b) (e q:Int) (he:b / 4503599627370496 % 2048 - 1075=e) (hq:b % 4503599627370496=q):wholeZ b.toNat=if e=972∧q≠0 then 0 else if 11≤e then(if 9223372036854775808≤b then -9223372036854775808 else 9223372036854775807) else if 9223372036854775808≤b then -(cutN (4503599627370496+q.toNat) e:Int) else(cutN (4503599627370496+q.toNat) e:Int):=by
 have h1:(fld b.toNat:Int)=e+1075:=by unfold fld;omega
 have h2:frc b.toNat=q.toNat:=by unfold frc;omega
 have h3:(ngB b.toNat=true)↔9223372036854775808≤b:=by simp[ngB];omega
 unfold wholeZ
 rw[h2,show(fld b.toNat:Int) - 1075=e by omega]
 have c1:(fld b.toNat=2047∧q.toNat≠0)↔(e=972∧q≠0):=by omega
 have c2:(1086≤fld b.toNat)↔11≤e:=by omega
 simp only[c1,c2,h3]
theorem cut_up (d:Nat) (k:Nat):cutN d (k:Int)=d * 2 ^ k:=by
 unfold cutN
 rw[show (-(k:Int)).toNat=0 by omega,Int.toNat_natCast];simp
theorem cut_down (d:Nat) (k:Nat):cutN d (-(k:Int))=d / 2 ^ k:=by
 unfold cutN
 rw[show (-(k:Int)).toNat=0 by omega,show(-(-(k:Int))).toNat=k by omega];simp
theorem pow_small {d k:Nat} (hd:d<9007199254740992) (hk:k≤10):d * 2 ^ k<9223372036854775808:=by
 have:2 ^ k≤2 ^ 10:=Nat.pow_le_pow_right (by decide) hk
 calc d * 2 ^ k≤d * 2 ^ 10:=Nat.mul_le_mul_left _ this
  _<_:=by omega
theorem rWhole_calls (b:Int) (h0:0≤b) (h1:b<18446744073709551616) (w:World):
 Calls Tryz.prog 119 #[.int .u64 b] w fun e w'=>e=.returned (.int .i64 (wholeZ b.toNat))∧w=w':=by
 obtain⟨r,hr⟩:∃r,wholeZ b.toNat=r:=⟨_,rfl⟩
 rw[hr]
 go_enter Tryz.func119,Tryz.ntmps119
 go_upto_region 4 with fail
 have hp:=whole_parts b h0 _ _ rfl rfl
 have he0:-1075≤b / 4503599627370496 % 2048 - 1075∧b / 4503599627370496 % 2048 - 1075≤972:=by omega
 generalize b / 4503599627370496 % 2048 - 1075=e at *
 rw[hr] at hp
 clear hr
 obtain⟨e0,e1⟩:=he0
 obtain⟨ng,hng⟩:∃ng,decide (9223372036854775808≤b)=ng:=⟨_,rfl⟩
 have hng':(9223372036854775808≤b)↔ng=true:=by rw[←hng];simp
 simp only[hng'] at hp
 clear hng'
 rw[hng]
 clear hng
 by_cases c1:e=972∧b % 4503599627370496≠0
 ·rw[if_pos c1] at hp
  obtain⟨rfl,c2⟩:=c1
  have t1:(b % 4503599627370496 != 0)=true:=by simpa using c2
  subst hp
  go_wp2
  go_ret
  exact⟨rfl,rfl⟩
 ·rw[if_neg c1] at hp
  have t1:(e == 972)=false∨(e=972∧(b % 4503599627370496 != 0)=false):=by
   by_cases h:e=972
   ·exact .inr ⟨h,by simpa[h] using c1⟩
   ·exact .inl (by simpa using h)
  clear c1
  by_cases c2:11≤e
  ·rw[if_pos c2] at hp
   rcases t1 with t1|⟨rfl,t1⟩ <;> cases ng
   all_goals
    simp only[Bool.false_eq_true,if_true,if_false] at hp
    subst hp
    go_wp2
    go_ret
    exact⟨rfl,rfl⟩
  ·rw[if_neg c2] at hp
   have t1:(e == 972)=false:=by simp;omega
   have t2:decide (11≤e)=false:=by simpa using c2
   by_cases c3:e< -52
   ·have hz:cutN (4503599627370496+(b % 4503599627370496).toNat) e=0:=by
     obtain⟨J,hJ⟩:∃J:Nat,e=-(J:Int):=⟨(-e).toNat,by omega⟩
     rw[hJ,cut_down]
     exact Nat.div_eq_of_lt (Nat.lt_of_lt_of_le (show _<2 ^ 53 by omega) (Nat.pow_le_pow_right (by decide) (by omega)))
    rw[hz] at hp
    obtain rfl:r=0:=by rw[hp];cases ng <;> rfl
    have t3:decide (e< -52)=true:=by simpa using c3
    clear hp
    go_wp2
    go_ret
    exact⟨rfl,rfl⟩
   ·have t3:decide (e< -52)=false:=by simpa using c3
    obtain⟨D,hD⟩:∃D:Nat,b % 4503599627370496+4503599627370496=D:=⟨(b % 4503599627370496+4503599627370496).toNat,by omega⟩
    have hD1:D<9007199254740992:=by omega
    rw[show 4503599627370496+(b % 4503599627370496).toNat=D by omega] at hp
    go_upto_region 13 with fail
    try rw[hD]
    by_cases c4:0≤e
    ·obtain⟨n,rfl⟩:∃n:Nat,e=n:=⟨e.toNat,by omega⟩
     rw[cut_up] at hp
     have hn:n≤10:=by omega
     go_loop [4,6] (fun a m=>∃k:Nat,k≤n∧a=.int .i64 ((n:Int) - k)∧m=.int .i64 ((D * 2 ^ k:Nat):Int)) (fun a _=>(intOf a).toNat)
     case atStart=>exact⟨0,by omega,by simp,by simp⟩
     case round=>
      obtain⟨k,hk,rfl,rfl⟩:=hrel
      by_cases hlt:k<n
      ·have g1:decide (0<(n:Int) - k)=true:=by simp;omega
       have g2:=pow_small hD1 (show k+1≤10 by omega)
       rw[Nat.pow_succ,←Nat.mul_assoc] at g2
       generalize hm:D * 2 ^ k=m at *
       go_wp2
       go_round
       case rel=>exact⟨k+1,by omega,by go_num,by rw[Nat.pow_succ,←Nat.mul_assoc,hm];go_num⟩
       case measure=>simp[intOf];omega
      ·obtain rfl:k=n:=by omega
       have g1:decide (0<(k:Int) - k)=false:=by simp
       have g2:=pow_small hD1 hn
       generalize D * 2 ^ k=m at *
       simp only[Int.sub_self] at g1 ⊢
       go_wp2
       go_loop [4,6] (fun a m'=>a=.int .i64 0∧m'=.int .i64 (m:Int)) (fun _ _=>0)
       case atStart=>exact⟨rfl,rfl⟩
       case round=>
        obtain⟨rfl,rfl⟩:=hrel
        cases ng
        all_goals
         simp only[Bool.false_eq_true,if_true,if_false] at hp
         subst hp
         go_wp2
         go_ret
         exact⟨rfl,rfl⟩
    ·obtain⟨n,rfl⟩:∃n:Nat,e=-(n:Int):=⟨(-e).toNat,by omega⟩
     rw[cut_down] at hp
     have hn:n≤52:=by omega
     have hn0:0<n:=by omega
     go_loop [4,6] (fun a m'=>a=.int .i64 (-(n:Int))∧m'=.int .i64 (D:Int)) (fun _ _=>0)
     case atStart=>exact⟨rfl,rfl⟩
     case round=>
      obtain⟨rfl,rfl⟩:=hrel
      have g1:decide (0< -(n:Int))=false:=decide_eq_false (by omega)
      go_wp2
      go_loop [4,6] (fun a m=>∃k:Nat,k≤n∧a=.int .i64 (-(n:Int)+k)∧m=.int .i64 ((D / 2 ^ k:Nat):Int)) (fun a _=>(-(intOf a)).toNat)
      case atStart=>exact⟨0,by omega,by simp,by simp⟩
      case round=>
       obtain⟨k,hk,rfl,rfl⟩:=hrel
       have hm2:D / 2 ^ k≤D:=Nat.div_le_self _ _
       by_cases hlt:k<n
       ·have g1:decide (-(n:Int)+k<0)=true:=by simp;omega
        have hs:D / 2 ^ (k+1)=D / 2 ^ k / 2:=by rw[Nat.pow_succ,Nat.div_div_eq_div_mul]
        generalize hm:D / 2 ^ k=m at *
        go_wp2
        go_round
        case rel=>exact⟨k+1,by omega,by go_num,by rw[hs];go_num⟩
        case measure=>simp[intOf];omega
       ·obtain rfl:k=n:=by omega
        have g1:decide (-(k:Int)+k<0)=false:=decide_eq_false (by omega)
        generalize D / 2 ^ k=m at *
        cases ng
        all_goals
         simp only[Bool.false_eq_true,if_true,if_false] at hp
         subst hp
         go_wp2
         go_ret
         exact⟨rfl,rfl⟩
def refB (k k2:Int) (more:Bool):Bool:=
 if k=k2 then true else if k≤4∧k2≤8 then more else if k=9∧k2≤8 then more || decide (k2=1) else if 5≤k∧k≤8∧5≤k2∧k2≤8 then more else if k≤8∧k2=10 then true else decide (k=10) && decide (k2=8)
theorem may_kind {k l:Int} (h:mayB k l=true):1≤k∧k≤12:=by
 by_cases hk:k=12
 ·omega
 ·have:=mayB_of h hk
  have:=(size_pos k).1 this.2
  omega
theorem casts_ref {k l k2 l2:Int} (h:mayB k l=true) (h2:mayB k2 l2=true):castsB k l k2 l2=refB k k2 (decide (longZ k l<longZ k2 l2)):=by
 have b1:=may_kind h
 have b2:=may_kind h2
 have hz:∀{k l:Int},mayB k l=true→longZ k l≠0:=fun {k l} h=>by
  by_cases hk:k=12
  ·subst hk
   have:=btw_iff.1 (mayB_12▸h)
   rw[long_12 h];omega
  ·have:=long_cases h hk;omega
 have n1:=hz h
 have n2:=hz h2
 have e9:k=9→longZ k l=1:=fun e=>by subst e;rw[longZ,if_pos h];rfl
 have e2:k2=2→longZ k2 l2=2:=fun e=>by subst e;rw[longZ,if_pos h2];rfl
 have e3:k2=3→longZ k2 l2=4:=fun e=>by subst e;rw[longZ,if_pos h2];rfl
 have e4:k2=4→longZ k2 l2=8:=fun e=>by subst e;rw[longZ,if_pos h2];rfl
 unfold castsB refB
 generalize longZ k l=x at *
 generalize longZ k2 l2=y at *
 clear hz h h2
 rw[Bool.eq_iff_iff]
 simp only[btw,decide_eq_true_eq]
 rcases(by omega:k≤4∨(5≤k∧k≤8)∨k=9∨10≤k) with c|c|c|c
 all_goals grind (splits:=30)
theorem rCasts_calls (s s2:ByteArray) (k l k2 l2:Int) (w:World):Calls Tryz.prog 116 #[.agg #[.string s,.int .i64 k,.int .i64 l],.agg #[.string s2,.int .i64 k2,.int .i64 l2]] w fun e w'=>e=.returned (.bool (castsB k l k2 l2))∧Below w.heap.size w w':=by
 have HB:Below w.heap.size w ((w.alloc (.cells #[.string s,.int .i64 k,.int .i64 l] 68)).alloc (.cells #[.string s2,.int .i64 k2,.int .i64 l2] 68)):=(below_new _).alloc (by simp) _
 obtain⟨m1,hm1⟩:∃r,mayB k l=r:=⟨_,rfl⟩
 obtain⟨m2,hm2⟩:∃r,mayB k2 l2=r:=⟨_,rfl⟩
 have H1:=Lib.hid hm1;have H2:=Lib.hid hm2
 by_cases hb:m1=true∧m2=true
 ·obtain⟨rfl,rfl⟩:=hb
  rw[casts_ref hm1 hm2]
  obtain⟨b1,b2⟩:=may_kind hm1
  obtain⟨b3,b4⟩:=may_kind hm2
  clear hm1 hm2
  go_enter Tryz.func116,Tryz.ntmps116
  go_wp2_with (first
   |(go_at_call 113;refine(rMay_calls _ _ _ _).mono ?_;rintro e w1 ⟨rfl,hb⟩;obtain⟨hc,hf⟩:=bcell hb;obtain⟨z0,z1⟩:w.heap.size<w1.heap.size∧w.heap.size+1<w1.heap.size:=(by have hz_:=hb.size;(try simp at hz_);omega);(first|rw[H1.out]|rw[H2.out]);have n_:Below w.heap.size w _:=below_seq (by repeat (first|exact HB|refine Below.setCell ?_ (by dsimp only;omega) _|refine Below.alloc ?_ (by have hs_:=HB.size;first|(simp;done)|(simp;omega)|omega) _|apply Below.drew)) hb;clear HB;have HB:=n_;clear n_))
  have g1:FBox w1 w.heap.size s k l:=⟨by go_simp,by go_simp,by go_simp⟩
  have g2:FBox w1 (w.heap.size+1) s2 k2 l2:=⟨by go_simp,by go_simp,by go_simp⟩
  refine RW.start (fun w'=>Below w.heap.size w w'∧FBox w' w.heap.size s k l∧FBox w' (w.heap.size+1) s2 k2 l2) (by kernel_rfl) (by kernel_rfl) ⟨HB.drew,g1,g2⟩ ?_
  clear g1 g2 hc hf hb HB z0 z1
  repeat (first
   |(refine' RW.val (by rfl) ?_ ?_;rotate_left;(focus (intro w' hS;obtain⟨HB,⟨c0,c1,c2⟩,⟨d0,d1,d2⟩⟩:=hS;go_simp;rfl));simp only[Act.put,List.setIfInBounds_toArray,List.set_cons_zero,List.set_cons_succ])
   |(refine RW.off (by rfl) ?_;simp only[Act.put,List.setIfInBounds_toArray,List.set_cons_zero,List.set_cons_succ])
   |(refine' RW.call (by rfl) ?_ ?_ ?_
     rotate_left 3
     (focus (intro w' hS;obtain⟨HB,⟨c0,c1,c2⟩,⟨d0,d1,d2⟩⟩:=hS;go_simp;exact⟨rfl,rfl⟩))
     (focus
       intro w' hS
       obtain⟨HB,⟨c0,c1,c2⟩,⟨d0,d1,d2⟩⟩:=hS
       first
        |(refine(rLong_calls _ _ _ _).mono ?_;rintro e w1 ⟨rfl,hb⟩;exact⟨rfl,⟨(below_seq HB hb),⟨(cell_below (B:=0) hb c0),(cell_below (B:=0) hb c1),(cell_below (B:=0) hb c2)⟩,⟨(cell_below (B:=0) hb d0),(cell_below (B:=0) hb d1),(cell_below (B:=0) hb d2)⟩⟩⟩))
     simp only[Act.put,List.setIfInBounds_toArray,List.set_cons_zero,List.set_cons_succ]))
  refine RW.done (fun w' hS=>?_)
  obtain⟨HB,⟨c0,c1,c2⟩,⟨d0,d1,d2⟩⟩:=hS
  go_wp2_with fail
  all_goals
   go_ret
   refine⟨ret_bool ?_,HB⟩
   clear HB c0 c1 c2 d0 d1 d2
   try simp only[beq_iff_eq,beq_eq_false_iff_ne,ne_eq] at *
   unfold refB
   generalize longZ k l=x at *
   generalize longZ k2 l2=y at *
   clear H1 H2
   grind (splits:=30)
 ·have hcf:castsB k l k2 l2=false:=by
   rw[castsB,if_pos]
   by_cases h1:m1=true
   ·have h2:m2=false:=by cases m2 <;> simp_all
    exact .inr (by rw[longZ,hm2,h2];rfl)
   ·have h1:m1=false:=by simpa using h1
    exact .inl (by rw[longZ,hm1,h1];rfl)
  rw[hcf]
  have hb':m1=false∨(m1=true∧m2=false):=by cases m1 <;> cases m2 <;> simp_all
  clear hm1 hm2 hcf hb
  rcases hb' with rfl|⟨rfl,rfl⟩
  all_goals
   go_enter Tryz.func116,Tryz.ntmps116
   go_wp2_with (first
    |(go_at_call 113;refine(rMay_calls _ _ _ _).mono ?_;rintro e w1 ⟨rfl,hb⟩;obtain⟨hc,hf⟩:=bcell hb;obtain⟨z0,z1⟩:w.heap.size<w1.heap.size∧w.heap.size+1<w1.heap.size:=(by have hz_:=hb.size;(try simp at hz_);omega);(first|rw[H1.out]|rw[H2.out]);have n_:Below w.heap.size w _:=below_seq (by repeat (first|exact HB|refine Below.setCell ?_ (by dsimp only;omega) _|refine Below.alloc ?_ (by have hs_:=HB.size;first|(simp;done)|(simp;omega)|omega) _|apply Below.drew)) hb;clear HB;have HB:=n_;clear n_))
   go_ret
   exact⟨ret_bool rfl,HB⟩
end
end Go.Proofs.YteembinfgbapgaaGreat
