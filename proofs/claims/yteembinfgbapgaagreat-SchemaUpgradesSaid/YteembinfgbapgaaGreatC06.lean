/- Merged out of: Kl Km. -/
import Derived.Test.YteembinfgbapgaaGreatC00
import Derived.Test.YteembinfgbapgaaGreatC05
set_option linter.unusedSimpArgs false
set_option linter.unusedVariables false
set_option maxRecDepth 100000
set_option maxHeartbeats 8000000
namespace Go.Proofs.YteembinfgbapgaaGreat
section
open Go.RowKit
theorem FBox.far {w:World} {b:Nat} {s:ByteArray} {k l:Int} (h:FBox w b s k l) {p:Addr} (hp:p.block≠b) (v:Value):FBox (w.setCell p v) b s k l:=
 ⟨(World.cell?_setCell_far w p _ v hp).trans h.1,(World.cell?_setCell_far w p _ v hp).trans h.2.1,(World.cell?_setCell_far w p _ v hp).trans h.2.2⟩
theorem VBox.far {w:World} {b:Nat} {k x:Int} {t:ByteArray} (h:VBox w b k x t) {p:Addr} (hp:p.block≠b) (v:Value):VBox (w.setCell p v) b k x t:=
 ⟨(World.cell?_setCell_far w p _ v hp).trans h.1,(World.cell?_setCell_far w p _ v hp).trans h.2.1,(World.cell?_setCell_far w p _ v hp).trans h.2.2⟩
theorem VBox.text {w:World} {b:Nat} {k x:Int} {t:ByteArray} (h:VBox w b k x t) (t':ByteArray):VBox (w.setCell ⟨b,2,none⟩ (.string t')) b k x t':=
 ⟨(World.cell?_setCell_other w _ _ _ (by simp)).trans h.1,(World.cell?_setCell_other w _ _ _ (by simp)).trans h.2.1,World.cell?_setCell_same w _ _ h.2.2⟩
theorem rZero_none (s:ByteArray) (k l:Int) (h:mayB k l=false) (w:World):
 Calls Tryz.prog 117 #[.agg #[.string s,.int .i64 k,.int .i64 l]] w fun e w'=>e=.returned (.agg #[.int .i64 0,.int .u64 0,.string ⟨#[]⟩])∧Below w.heap.size w w':=by
 have HB:=Jy w.heap.size w
 have H:=J0 h
 clear h
 go_enter Tryz.func117,Tryz.ntmps117
 go_wp2_with (first|(go_at_call 113;refine(rMay_is _ _ _ _ H.out _).mono ?_;rintro e w1 ⟨rfl,hb⟩;obtain⟨hc,hf⟩:=bcell hb;obtain⟨z0,z1⟩:w.heap.size<w1.heap.size∧w.heap.size+1<w1.heap.size:=(by have hz_:=hb.size;(try simp at hz_);omega);have n_:Below w.heap.size w _:=below_seq (by repeat (first|exact HB|refine J8 ?_ (by dsimp only;omega) _|refine Jk ?_ (by have hs_:=HB.size;first|(simp;done)|(simp;omega)|omega) _|apply Jv)) hb;clear HB;have HB:=n_;clear n_))
 refine bodyPost_ret (v:=.agg #[.int .i64 0,.int .u64 0,.string ⟨#[]⟩]) (by simp[results,Tryz.results117,go_sem, *]) rfl ⟨rfl,?_⟩
 (repeat (first|exact HB|refine J8 ?_ (by dsimp only;omega) _|refine Jk ?_ (by have hs_:=HB.size;first|(simp;done)|(simp;omega)|omega) _|apply Jv))
theorem rZero_some (s:ByteArray) (k:Int) (n:Nat) (h:mayB k n=true) (hn:n≤64) (w:World):
 Calls Tryz.prog 117 #[.agg #[.string s,.int .i64 k,.int .i64 n]] w fun e w'=>e=.returned (.agg #[.int .i64 k,.int .u64 0,.string (strL (List.replicate n 0))])∧Below w.heap.size w w':=by
 have HB:=Jy w.heap.size w
 have H:=J0 h
 clear h
 go_enter Tryz.func117,Tryz.ntmps117
 go_wp2_with (first|(go_at_call 113;refine(rMay_is _ _ _ _ H.out _).mono ?_;rintro e w1 ⟨rfl,hb⟩;obtain⟨hc,hf⟩:=bcell hb;obtain⟨z0,z1⟩:w.heap.size<w1.heap.size∧w.heap.size+1<w1.heap.size:=(by have hz_:=hb.size;(try simp at hz_);omega);have n_:Below w.heap.size w _:=below_seq (by repeat (first|exact HB|refine J8 ?_ (by dsimp only;omega) _|refine Jk ?_ (by have hs_:=HB.size;first|(simp;done)|(simp;omega)|omega) _|apply Jv)) hb;clear HB;have HB:=n_;clear n_))
 obtain⟨q,hq⟩:∃q,w1.heap.size=q:=⟨_,rfl⟩
 obtain⟨W,hW⟩:∃W:World,w1.alloc (.cells #[.int .i64 k,.int .u64 0,.string ⟨#[]⟩] 71)=W:=⟨_,rfl⟩
 have g1:FBox W w.heap.size s k n:=by
  rw[←hW];refine FBox.alloc ?_ _
  exact⟨by rw[hc _ _ (by simp;omega)];simp[go_sem],by rw[hc _ _ (by simp;omega)];simp[go_sem],by rw[hc _ _ (by simp;omega)];simp[go_sem]⟩
 have g2:VBox W (w.heap.size+1) 0 0 ⟨#[]⟩:=by
  rw[←hW];refine VBox.alloc ?_ _
  exact⟨by rw[hc _ _ (by simp)];simp[go_sem],by rw[hc _ _ (by simp)];simp[go_sem],by rw[hc _ _ (by simp)];simp[go_sem]⟩
 have g3:VBox W q k 0 (strL (List.replicate 0 0)):=by rw[←hW,←hq];exact VBox.new _ _ _ _
 have f2:∀o,W.frozen? ⟨w.heap.size+1,o,none⟩=false:=by
  intro o
  rw[←hW,World.frozen?_alloc_past _ _ _ z1,hf _ _ (by simp)]
  simp[go_sem]
 have f3:∀o,W.frozen? ⟨q,o,none⟩=false:=by intro o;rw[←hW,←hq];simp[go_sem]
 have hB:Below w.heap.size w W:=hW▸HB.alloc (by omega) _
 have hs1:q<W.heap.size:=by rw[←hW];simp;omega
 have hq1:w.heap.size+1<q:=by omega
 rw[hW,hq]
 clear hW hc hf hb HB
 go_loopw [4] (fun i wr=>∃j:Nat,j≤n∧i=.int .i64 j∧FBox wr w.heap.size s k n∧VBox wr (w.heap.size+1) 0 0 ⟨#[]⟩∧VBox wr q k 0 (strL (List.replicate j 0))∧(∀o,wr.frozen? ⟨w.heap.size+1,o,none⟩=false)∧(∀o,wr.frozen? ⟨q,o,none⟩=false)∧Below w.heap.size w wr∧q<wr.heap.size) (fun i _=>n - (intOf i).toNat)
 case atStart=>exact⟨0,by omega,rfl,g1,g2,g3,f2,f3,hB,hs1⟩
 case round=>
  clear g1 g2 g3 f2 f3 hB hs1
  obtain⟨j,hj,rfl,⟨c0,c1,c2⟩,⟨r0,r1,r2⟩,⟨d0,d1,d2⟩,f2,f3,HB,hs1⟩:=hrel
  by_cases hlt:j<n
  ·have hz:¬9223372036854775807<(strL (List.replicate j 0)).size+1:=by rw[strL_size,List.length_replicate];omega
   have hap:strL (List.replicate j 0)++ ⟨#[0]⟩=strL (List.replicate (j+1) 0):=by
    rw[List.replicate_succ',←strL_append];rfl
   have HA:=J0 hap
   clear hap
   go_wp2
   go_roundw
   case rel=>
    have n1:q≠w.heap.size:=by omega
    have n2:q≠w.heap.size+1:=by omega
    rw[HA.out]
    refine⟨j+1,by omega,by go_num,FBox.far ⟨c0,c1,c2⟩ n1 _,VBox.far ⟨r0,r1,r2⟩ n2 _,VBox.text ⟨d0,d1,d2⟩ _,?_,?_,HB.setCell (by dsimp only;omega) _,by simpa using hs1⟩
    ·intro o;rw[World.frozen?_setCell];exact f2 o
    ·intro o;rw[World.frozen?_setCell];exact f3 o
   case measure=>simp[intOf];omega
  ·obtain rfl:j=n:=by omega
   go_wp2
   refine bodyPost_ret (v:=.agg #[.int .i64 k,.int .u64 0,.string (strL (List.replicate j 0))]) (by simp[results,Tryz.results117,go_sem, *]) rfl ⟨rfl,?_⟩
   (repeat (first|exact HB|refine J8 ?_ (by dsimp only;omega) _|refine Jk ?_ (by have hs_:=HB.size;first|(simp;done)|(simp;omega)|omega) _|apply Jv))
theorem rZero_calls (s:ByteArray) (k l:Int) (w:World):
 Calls Tryz.prog 117 #[.agg #[.string s,.int .i64 k,.int .i64 l]] w fun e w'=>e=.returned (zeroV k l)∧Below w.heap.size w w':=by
 by_cases h:mayB k l=true
 ·rw[zeroV,if_pos h]
  by_cases hk:k=12
  ·subst hk
   have:=btw_iff.1 (mayB_12▸h)
   obtain⟨n,rfl⟩:∃n:Nat,l=n:=⟨l.toNat,by omega⟩
   rw[zeroL,if_pos rfl]
   exact rZero_some s 12 n h (by omega) w
  ·rw[zeroL,if_neg hk]
   obtain rfl:=(mayB_of h hk).1
   exact rZero_some s k 0 h (by omega) w
 ·rw[zeroV,if_neg h]
  exact rZero_none s k l (by simpa using h) w
def putL (n:Int) (width:Nat):List UInt8:=if fitsB n width false=true then leL n width else[]
theorem tz_top {n:Nat} (h:widthB n=true):tz n=topZ n - 1:=by
 have:=width_cases h
 rcases(by omega:n=1∨n=2∨n=4∨n=8) with rfl|rfl|rfl|rfl <;> rfl
theorem rPut_calls (n:Int) (width:Nat) (hw:width≤8) (h0:0≤n) (h1:n<18446744073709551616) (w:World):Calls Tryz.prog 83 #[.int .i64 width,.int .u64 n] w fun e w'=>e=.returned (.string (strL (putL n width)))∧Below w.heap.size w w':=by
 by_cases h:fitsB n width false=true
 ·rw[putL,if_pos h]
  simp only[fitsB,Qy] at h
  exact rPut_some n width hw h.1 h0 h1 (by rw[tz_top h.1];have:=h.2;simp at this;omega) w
 ·rw[putL,if_neg h]
  refine rPut_none n width hw h0 h1 (fun hb=>?_) w
  rw[tz_top hb]
  simp[fitsB,hb] at h;omega
theorem rPut_is (n:Int) (h0:0≤n) (h1:n<18446744073709551616) (w:World):Calls Tryz.prog 83 #[.int .i64 8,.int .u64 n] w fun e w'=>e=.returned (.string (strL (leL n 8)))∧Below w.heap.size w w':=by
 have:=rPut_calls n 8 (by omega) h0 h1 w
 rwa [putL,if_pos (by simp[fitsB,widthB,topZ];omega)] at this
theorem rRight_is5 (vk bits:Int) (tx s:ByteArray) (k l:Int) (h0:0≤bits) (h1:bits<18446744073709551616) (r:Bool) (h:rightB vk bits tx k l=r) (w:World):
 Calls Tryz.prog 115 #[.agg #[.int .i64 vk,.int .u64 bits,.string tx],.agg #[.string s,.int .i64 k,.int .i64 l]] w fun e w'=>e=.returned (.bool r)∧Below w.heap.size w w':=h▸rRight_calls5 vk bits tx s k l h0 h1 w
def encS (vk bits:Int) (tx:ByteArray) (k l:Int):ByteArray:=if rightB vk bits tx k l=true then strL (encL bits tx k l) else⟨#[]⟩
def encE (vk bits:Int) (tx:ByteArray) (k l:Int):Int:=if rightB vk bits tx k l=true then 0 else 50
theorem leL_take (n:Int) {j k:Nat} (h:j≤k):(leL n k).take j=leL n j:=by
 apply Xv
 intro i
 simp only[leL,X9,Kv]
 by_cases hi:i<j
 ·simp[hi,show i<k by omega]
 ·simp[hi,Xy (show(List.range j).length≤i by simp;omega)]
theorem strL_extract (l:List UInt8) (n:Nat):(strL l).extract 0 n=strL (l.take n):=by
 apply ByteArray.ext;simp[strL]
theorem rEncode_calls (vk bits:Int) (tx s:ByteArray) (k l:Int) (h0:0≤bits) (h1:bits<18446744073709551616) (w:World):
 Calls Tryz.prog 85 #[.agg #[.int .i64 vk,.int .u64 bits,.string tx],.agg #[.string s,.int .i64 k,.int .i64 l]] w fun e w'=>e=.returned (.tuple #[.string (encS vk bits tx k l),.int .i64 (encE vk bits tx k l)])∧Below w.heap.size w w':=by
 have HB:=Jy w.heap.size w
 by_cases hr:rightB vk bits tx k l=true
 ·rw[encS,encE,if_pos hr,if_pos hr]
  have hm:=(right_may hr).1
  have H:=J0 hr
  clear hr
  by_cases hk:k=12
  ·subst hk
   rw[encL,if_pos rfl,strL_bl]
   clear hm
   go_enter Tryz.func85,Tryz.ntmps85
   go_wp2_with (first|(go_at_call 115;refine(rRight_is5 _ _ _ _ _ _ h0 h1 _ H.out _).mono ?_;rintro e w1 ⟨rfl,hb⟩;obtain⟨hc,hf⟩:=bcell hb;obtain⟨z0,z1⟩:w.heap.size<w1.heap.size∧w.heap.size+1<w1.heap.size:=(by have hz_:=hb.size;(try simp at hz_);omega);have n_:Below w.heap.size w _:=below_seq (by repeat (first|exact HB|refine J8 ?_ (by dsimp only;omega) _|refine Jk ?_ (by have hs_:=HB.size;first|(simp;done)|(simp;omega)|omega) _|apply Jv)) hb;clear HB;have HB:=n_;clear n_))
   go_ret2
   exact⟨rfl,HB⟩
  ·have hlc:=long_cases hm hk
   have hk':(k == 12)=false:=by simpa using hk
   obtain⟨n,hn⟩:∃n:Nat,longZ k l=n:=⟨(longZ k l).toNat,by omega⟩
   have hn8:n≤8:=by omega
   rw[encL,if_neg hk,hn]
   have HN:=J0 hn
   clear hn hlc hm
   go_enter Tryz.func85,Tryz.ntmps85
   go_wp2_with (first|(go_at_call 115;refine(rRight_is5 _ _ _ _ _ _ h0 h1 _ H.out _).mono ?_;rintro e w1 ⟨rfl,hb⟩;obtain⟨hc,hf⟩:=bcell hb;obtain⟨z0,z1⟩:w.heap.size<w1.heap.size∧w.heap.size+1<w1.heap.size:=(by have hz_:=hb.size;(try simp at hz_);omega);have n_:Below w.heap.size w _:=below_seq (by repeat (first|exact HB|refine J8 ?_ (by dsimp only;omega) _|refine Jk ?_ (by have hs_:=HB.size;first|(simp;done)|(simp;omega)|omega) _|apply Jv)) hb;clear HB;have HB:=n_;clear n_))
   have g1:FBox w1 (w.heap.size+1) s k l:=⟨by rw[hc _ _ (by simp)];simp[go_sem],by rw[hc _ _ (by simp)];simp[go_sem],by rw[hc _ _ (by simp)];simp[go_sem]⟩
   have g2:VBox w1 w.heap.size vk bits tx:=⟨by rw[hc _ _ (by simp;omega)];simp[go_sem],by rw[hc _ _ (by simp;omega)];simp[go_sem],by rw[hc _ _ (by simp;omega)];simp[go_sem]⟩
   have hsz:(strL (leL bits 8)).size=8:=by rw[strL_size,leL_length]
   have hn8':(n:Int)≤8:=by omega
   refine RW.start (fun w'=>Below w.heap.size w w'∧FBox w' (w.heap.size+1) s k l∧VBox w' w.heap.size vk bits tx) (by kernel_rfl) (by kernel_rfl) ⟨HB.drew,g1,g2⟩ ?_
   clear g1 g2 hc hf hb HB z0 z1
   repeat (first
    |(refine' RW.val (by rfl) ?_ ?_;rotate_left;(focus (intro w' hS;obtain⟨HB,⟨c0,c1,c2⟩,⟨d0,d1,d2⟩⟩:=hS;go_simp;rfl));simp only[Act.put,J1,J3,J2])
    |(refine RW.off (by rfl) ?_;simp only[Act.put,J1,J3,J2])
    |(refine' RW.call (by rfl) ?_ ?_ ?_
      rotate_left 3
      (focus (intro w' hS;obtain⟨HB,⟨c0,c1,c2⟩,⟨d0,d1,d2⟩⟩:=hS;go_simp;exact⟨rfl,rfl⟩))
      (focus
        intro w' hS
        obtain⟨HB,⟨c0,c1,c2⟩,⟨d0,d1,d2⟩⟩:=hS
        first
         |(refine(rLong_is _ _ _ _ HN.out _).mono ?_;rintro e w1 ⟨rfl,hb⟩;exact⟨rfl,⟨(below_seq HB hb),⟨(cell_below (B:=0) hb c0),(cell_below (B:=0) hb c1),(cell_below (B:=0) hb c2)⟩,⟨(cell_below (B:=0) hb d0),(cell_below (B:=0) hb d1),(cell_below (B:=0) hb d2)⟩⟩⟩)
         |(refine(rPut_is _ h0 h1 _).mono ?_;rintro e w1 ⟨rfl,hb⟩;exact⟨rfl,⟨(below_seq HB hb),⟨(cell_below (B:=0) hb c0),(cell_below (B:=0) hb c1),(cell_below (B:=0) hb c2)⟩,⟨(cell_below (B:=0) hb d0),(cell_below (B:=0) hb d1),(cell_below (B:=0) hb d2)⟩⟩⟩))
      simp only[Act.put,J1,J3,J2]))
   refine RW.done (fun w' hS=>?_)
   obtain⟨HB,⟨c0,c1,c2⟩,⟨d0,d1,d2⟩⟩:=hS
   go_wp2
   go_ret2
   exact⟨by simp[strL_extract,leL_take _ hn8],HB⟩
 ·have hr':rightB vk bits tx k l=false:=by simpa using hr
  rw[encS,encE,if_neg hr,if_neg hr]
  have H:=J0 hr'
  clear hr hr'
  go_enter Tryz.func85,Tryz.ntmps85
  go_wp2_with (first|(go_at_call 115;refine(rRight_is5 _ _ _ _ _ _ h0 h1 _ H.out _).mono ?_;rintro e w1 ⟨rfl,hb⟩;obtain⟨hc,hf⟩:=bcell hb;obtain⟨z0,z1⟩:w.heap.size<w1.heap.size∧w.heap.size+1<w1.heap.size:=(by have hz_:=hb.size;(try simp at hz_);omega);have n_:Below w.heap.size w _:=below_seq (by repeat (first|exact HB|refine J8 ?_ (by dsimp only;omega) _|refine Jk ?_ (by have hs_:=HB.size;first|(simp;done)|(simp;omega)|omega) _|apply Jv)) hb;clear HB;have HB:=n_;clear n_))
  go_ret2
  exact⟨rfl,HB⟩
theorem byteZ_nat (n i:Nat):byteZ (n:Int) i=((n / 2 ^ (8 * i) % 256:Nat):Int):=by
 unfold byteZ
 rw[Int.natCast_emod,Int.natCast_ediv,Int.natCast_pow]
 rfl
theorem byteZ_append (a b:List UInt8) (i:Nat) (hi:i<a.length):byteZ (numL (a++b)) i=byteZ (numL a) i:=by
 unfold numL
 rw[byteZ_nat,byteZ_nat,numN_append]
 obtain⟨d,hd⟩:∃d,8 * a.length=8 * i+(8+d):=⟨8 * (a.length - i - 1),by omega⟩
 rw[hd,Nat.pow_add,Nat.mul_assoc,Nat.add_mul_div_left _ _ (Nat.two_pow_pos _),Nat.pow_add,Nat.mul_assoc,show(2:Nat) ^ 8=256 from rfl,Nat.add_mul_mod_self_left]
theorem byteZ_last (a:List UInt8) (x:UInt8):byteZ (numL (a++[x])) a.length=x.toNat:=by
 unfold numL
 rw[byteZ_nat,numN_append]
 have h1:=numN_lt a
 have h2:=x.toNat_lt
 rw[Nat.add_mul_div_left _ _ (Nat.two_pow_pos _),Nat.div_eq_of_lt h1]
 simp only[numN]
 omega
theorem leL_num (l:List UInt8):leL (numL l) l.length=l:=by
 apply List.ext_getElem (leL_length _ _)
 intro i h1 h2
 have hl:l=(l.take i++[l[i]])++l.drop (i+1):=by simp
 have hti:(l.take i).length=i:=by simp;omega
 simp only[leL,List.getElem_map,List.getElem_range]
 have e:byteZ (numL l) i=l[i].toNat:=by
  conv=>lhs;rw[hl]
  rw[byteZ_append _ _ _ (by simp;omega)]
  have:=byteZ_last (l.take i) l[i]
  rwa [hti] at this
 rw[e];simp
theorem byteZ_sign (n:Int) (w i:Nat) (hw:widthB w=true) (hi:i<w) (h0:0≤n) (h1:n<18446744073709551616):byteZ (signZ n w) i=byteZ n i:=by
 have hc:=width_cases hw
 rcases(by omega:w=1∨w=2∨w=4∨w=8) with rfl|rfl|rfl|rfl
 ·obtain rfl:i=0:=by omega
  rw[show ((1:Nat):Int)=1 from rfl,signZ_arith1 n h0 h1]
  simp[byteZ];split <;> omega
 ·rw[show ((2:Nat):Int)=2 from rfl,signZ_arith2 n h0 h1]
  rcases(by omega:i=0∨i=1) with rfl|rfl <;> simp[byteZ] <;> split <;> omega
 ·rw[show ((4:Nat):Int)=4 from rfl,signZ_arith4 n h0 h1]
  rcases(by omega:i=0∨i=1∨i=2∨i=3) with rfl|rfl|rfl|rfl <;> simp[byteZ] <;> split <;> omega
 ·rw[show ((8:Nat):Int)=8 from rfl,signZ_8 n h0 h1]
theorem leL_sign (n:Int) (w:Nat) (hw:widthB w=true) (h0:0≤n) (h1:n<18446744073709551616):leL (signZ n w) w=leL n w:=by
 apply List.ext_getElem (by simp[leL_length])
 intro i h2 h3
 simp only[leL,List.getElem_map,List.getElem_range]
 rw[byteZ_sign n w i hw (by simpa[leL_length] using h2) h0 h1]
def rdecZ (l:List UInt8) (k:Int):Int:=if k=12 then 0 else if btw 5 k 8=true then signZ (getZ l) l.length else getZ l
theorem rdecZ_bd (l:List UInt8) (k:Int):0≤rdecZ l k∧rdecZ l k<18446744073709551616:=by
 have:=getZ_bd l
 unfold rdecZ
 split
 ·omega
 ·split
  ·exact signZ_bd _ _ this.1 this.2
  ·exact this
theorem rdec_ok (l:List UInt8) (k long:Int):(rightB k (rdecZ l k) (decT l k) k long=true∧encL (rdecZ l k) (decT l k) k long=l)↔decB l k long=true:=by
 unfold decB
 simp only[Qy,decide_eq_true_eq]
 by_cases hk:k=12
 ·subst hk
  have e1:rdecZ l 12=0:=by simp[rdecZ]
  have e2:decZ l 12 long=0:=by simp[decZ,rawZ,btw]
  have e3:decT l 12=strL l:=by simp[decT]
  rw[e1,e2,e3]
  constructor
  ·rintro ⟨h,_⟩
   have hm:=right_may h
   refine⟨?_,h⟩
   rw[long_12 hm.1]
   have:=hm.2.2.1
   rw[if_pos rfl,strL_size] at this
   exact this
  ·rintro ⟨_,h⟩
   exact⟨h,by rw[encL,if_pos rfl,bl_strL]⟩
 ·have e3:decT l k=⟨#[]⟩:=by simp[decT,hk]
  rw[e3]
  by_cases hl:(l.length:Int)=longZ k long
  ·have e2:decZ l k long=rdecZ l k:=by
    rw[decZ,rdecZ,if_neg hk]
    have:rawZ l k long=getZ l:=by rw[rawZ,if_neg hk,getZ];simp[hl]
    rw[this]
   rw[e2]
   constructor
   ·rintro ⟨h,_⟩;exact⟨hl,h⟩
   ·rintro ⟨_,h⟩
    refine⟨h,?_⟩
    have hm:=(right_may h).1
    have hlc:=long_cases hm hk
    have hwb:widthB l.length=true:=by rw[hl];simp[widthB];omega
    have hg:=getZ_bd l
    have hgz:getZ l=numL l:=by rw[getZ,if_pos hwb]
    rw[encL,if_neg hk,←hl,rdecZ,if_neg hk]
    simp only[Int.toNat_natCast]
    split
    ·rw[leL_sign _ _ hwb hg.1 hg.2,hgz,leL_num]
    ·rw[hgz,leL_num]
  ·constructor
   ·rintro ⟨h,he⟩
    exfalso
    apply hl
    have hm:=(right_may h).1
    have hlc:=long_cases hm hk
    rw[encL,if_neg hk] at he
    have:=congrArg List.length he
    rw[leL_length] at this
    omega
   ·rintro ⟨h,_⟩;exact absurd h hl
theorem rdec_val {l:List UInt8} {k long:Int} (h:decB l k long=true):decZ l k long=rdecZ l k:=by
 by_cases hk:k=12
 ·subst hk;simp[rdecZ,decZ,rawZ,btw]
 ·unfold decB at h
  simp only[Qy,decide_eq_true_eq] at h
  rw[decZ,rdecZ,if_neg hk]
  have:rawZ l k long=getZ l:=by rw[rawZ,if_neg hk,getZ];simp[h.1]
  rw[this]
theorem rEncode_is (vk bits:Int) (tx s:ByteArray) (k l:Int) (h0:0≤bits) (h1:bits<18446744073709551616) (r:ByteArray) (q:Int) (hr:encS vk bits tx k l=r) (hq:encE vk bits tx k l=q) (w:World):
 Calls Tryz.prog 85 #[.agg #[.int .i64 vk,.int .u64 bits,.string tx],.agg #[.string s,.int .i64 k,.int .i64 l]] w fun e w'=>e=.returned (.tuple #[.string r,.int .i64 q])∧Below w.heap.size w w':=by
 subst hr hq;exact rEncode_calls vk bits tx s k l h0 h1 w
theorem rSign_is (n width:Int) (h0:0≤n) (h1:n<18446744073709551616) (r:Int) (h:signZ n width=r) (w:World):Calls Tryz.prog 130 #[.int .u64 n,.int .i64 width] w fun e w'=>e=.returned (.int .u64 r)∧w=w':=h▸rSign_calls n width h0 h1 w
theorem rGet_is (s:ByteArray) (hs:s.size≤9223372036854775807) (r:Int) (h:getZ (bl s)=r) (w:World):
 Calls Tryz.prog 90 #[.string s,.int .i64 0,.int .i64 (s.size:Int)] w fun e w'=>e=.returned (.tuple #[.int .u64 r,.bool (widthB s.size)])∧w=w':=by
 subst h
 by_cases hb:widthB s.size=true
 ·have:=rGet_some s 0 s.size w (width_nat hb) hb (by omega) hs
  rw[getZ,bl_length,if_pos hb,hb]
  simpa[Vz (show(bl s).length≤s.size by rw[bl_length];exact J9 _)] using this
 ·rw[Bool.not_eq_true] at hb
  rw[getZ,bl_length,hb,if_neg (by simp)]
  exact rGet_none s 0 s.size w hs (.inl hb)
theorem rDecode_calls (s n:ByteArray) (k long:Int) (hs:s.size≤9223372036854775807) (w:World):
 Calls Tryz.prog 93 #[.string s,.agg #[.string n,.int .i64 k,.int .i64 long]] w fun e w'=>e=.returned (.tuple #[decV (bl s) k long,.int .i64 (decE (bl s) k long)])∧Below w.heap.size w w':=by
 have hok:=rdec_ok (bl s) k long
 have hval:=@rdec_val (bl s) k long
 obtain⟨d0,d1⟩:=rdecZ_bd (bl s) k
 obtain⟨g0,g1⟩:=getZ_bd (bl s)
 have hss:=setCell_twice
 have HB:Below w.heap.size w ((w.alloc (.cells #[.string n,.int .i64 k,.int .i64 long] 68)).alloc (.cells #[.int .i64 0,.int .u64 0,.string ⟨#[]⟩] 71)):=(below_new _).alloc (by simp) _
 obtain⟨es,hes⟩:∃r,encS k (rdecZ (bl s) k) (decT (bl s) k) k long=r:=⟨_,rfl⟩
 obtain⟨ee,hee⟩:∃r,encE k (rdecZ (bl s) k) (decT (bl s) k) k long=r:=⟨_,rfl⟩
 obtain⟨ok,hdec⟩:∃r,decB (bl s) k long=r:=⟨_,rfl⟩
 have htest:(ee=0∧es.toList=s.toList)↔ok=true:=by
  rw[←hdec,←hok,←hes,←hee,encS,encE]
  by_cases hr:rightB k (rdecZ (bl s) k) (decT (bl s) k) k long=true
  ·rw[if_pos hr,if_pos hr]
   simp only[hr,true_and,ByteArray.toList_eq]
   rw[show (strL (encL (rdecZ (bl s) k) (decT (bl s) k) k long)).data.toList=encL (rdecZ (bl s) k) (decT (bl s) k) k long by simp[strL]]
   rfl
  ·rw[if_neg hr,if_neg hr];simp[hr]
 have hee2:ee=0∨ee=50:=by rw[←hee,encE];split <;> simp
 have HF:=J0 hee
 have HE:=J0 hes
 have hout:(ok=true∧ee=0∧(!es.toList == s.toList)=false)∨(ok=false∧ee=50)∨(ok=false∧ee=0∧(!es.toList == s.toList)=true):=by
  cases ok
  ·rcases hee2 with h|h
   ·refine .inr (.inr ⟨rfl,h,?_⟩)
    have:¬es.toList=s.toList:=fun hh=>by have:=htest.1 ⟨h,hh⟩;cases this
    simpa using this
   ·exact .inr (.inl ⟨rfl,h⟩)
  ·have:=htest.2 rfl
   exact .inl ⟨rfl,this.1,by simpa using this.2⟩
 have hkt:(k=12∧decT (bl s) k=s∧rdecZ (bl s) k=0)∨((k == 12)=false∧decT (bl s) k=⟨#[]⟩∧((btw 5 k 8=true∧signZ (getZ (bl s)) s.size=rdecZ (bl s) k)∨(btw 5 k 8=false∧getZ (bl s)=rdecZ (bl s) k))):=by
  by_cases hk:k=12
  ·exact .inl ⟨hk,by rw[decT,if_pos hk,strL_bl],by rw[rdecZ,if_pos hk]⟩
  ·refine .inr ⟨by simpa using hk,by rw[decT,if_neg hk],?_⟩
   cases hb:btw 5 k 8
   ·exact .inr ⟨rfl,by rw[rdecZ,if_neg hk,hb];rfl⟩
   ·exact .inl ⟨rfl,by rw[rdecZ,if_neg hk,hb,bl_length];rfl⟩
 have hfin:ok=true→(decV (bl s) k long=.agg #[.int .i64 k,.int .u64 (rdecZ (bl s) k),.string (decT (bl s) k)]∧decE (bl s) k long=0):=by
  intro h
  have:=decV_ok (hdec.trans h)
  rwa [hval (hdec.trans h)] at this
 have hfin2:ok=false→(decV (bl s) k long=.agg #[.int .i64 0,.int .u64 0,.string ⟨#[]⟩]∧decE (bl s) k long=50):=fun h=>decV_no (hdec.trans h)
 clear hok hval htest hee2 hdec hes hee
 obtain⟨dz,hdz⟩:∃z,rdecZ (bl s) k=z:=⟨_,rfl⟩
 obtain⟨dt,hdt⟩:∃z,decT (bl s) k=z:=⟨_,rfl⟩
 obtain⟨gz,hgz⟩:∃z,getZ (bl s)=z:=⟨_,rfl⟩
 obtain⟨dv,hdv⟩:∃z,decV (bl s) k long=z:=⟨_,rfl⟩
 obtain⟨de,hde⟩:∃z,decE (bl s) k long=z:=⟨_,rfl⟩
 rw[hdv,hde] at hfin hfin2
 rw[hdv,hde]
 rw[hdz,hdt] at hkt hfin HE HF
 rw[hdz] at d0 d1
 rw[hgz] at hkt g0 g1
 have HG:=J0 hgz
 clear hdz hdt hgz hdv hde
 have hb12:∀(W:World),True:=fun _=>trivial
 rcases hkt with ⟨rfl,rfl,rfl⟩|⟨hk,rfl,⟨hb,hz⟩|⟨hb,hz⟩⟩
 ·rcases hout with ⟨ho,rfl,ht⟩|⟨ho,rfl⟩|⟨ho,rfl,ht⟩
  ·obtain⟨rfl,rfl⟩:=hfin ho
   clear hfin hfin2 hb12
   go_enter Tryz.func93,Tryz.ntmps93
   go_wp2_with (first
    |(go_at_call 85;refine(rEncode_is _ _ _ _ _ _ d0 d1 _ _ HE.out HF.out _).mono ?_;rintro e w1 ⟨rfl,hb⟩;obtain⟨hc,hf⟩:=bcell hb;obtain⟨z0,z1,z2⟩:w.heap.size<w1.heap.size∧w.heap.size+1<w1.heap.size∧w.heap.size+1+1<w1.heap.size:=(by have hz_:=hb.size;(try simp at hz_);omega);have n_:Below w.heap.size w _:=below_seq (by repeat (first|exact HB|refine J8 ?_ (by dsimp only;omega) _|refine Jk ?_ (by have hs_:=HB.size;first|(simp;done)|(simp;omega)|omega) _|apply Jv)) hb;clear HB;have HB:=n_;clear n_))
   refine bodyPost_ret (v:=.tuple #[.agg #[.int .i64 12,.int .u64 0,.string dt],.int .i64 0]) (by simp[results,Tryz.results93,go_sem, *];done) rfl ⟨rfl,?_⟩
   (repeat (first|exact HB|refine J8 ?_ (by dsimp only;omega) _|refine Jk ?_ (by have hs_:=HB.size;first|(simp;done)|(simp;omega)|omega) _|apply Jv))
  ·obtain⟨rfl,rfl⟩:=hfin2 ho
   clear hfin hfin2 hb12
   go_enter Tryz.func93,Tryz.ntmps93
   go_wp2_with (first
    |(go_at_call 85;refine(rEncode_is _ _ _ _ _ _ d0 d1 _ _ HE.out HF.out _).mono ?_;rintro e w1 ⟨rfl,hb⟩;obtain⟨hc,hf⟩:=bcell hb;obtain⟨z0,z1,z2⟩:w.heap.size<w1.heap.size∧w.heap.size+1<w1.heap.size∧w.heap.size+1+1<w1.heap.size:=(by have hz_:=hb.size;(try simp at hz_);omega);have n_:Below w.heap.size w _:=below_seq (by repeat (first|exact HB|refine J8 ?_ (by dsimp only;omega) _|refine Jk ?_ (by have hs_:=HB.size;first|(simp;done)|(simp;omega)|omega) _|apply Jv)) hb;clear HB;have HB:=n_;clear n_))
   refine bodyPost_ret (v:=.tuple #[.agg #[.int .i64 0,.int .u64 0,.string (⟨#[]⟩:ByteArray)],.int .i64 50]) (by simp[results,Tryz.results93,go_sem, *];done) rfl ⟨rfl,?_⟩
   (repeat (first|exact HB|refine J8 ?_ (by dsimp only;omega) _|refine Jk ?_ (by have hs_:=HB.size;first|(simp;done)|(simp;omega)|omega) _|apply Jv))
  ·obtain⟨rfl,rfl⟩:=hfin2 ho
   clear hfin hfin2 hb12
   go_enter Tryz.func93,Tryz.ntmps93
   go_wp2_with (first
    |(go_at_call 85;refine(rEncode_is _ _ _ _ _ _ d0 d1 _ _ HE.out HF.out _).mono ?_;rintro e w1 ⟨rfl,hb⟩;obtain⟨hc,hf⟩:=bcell hb;obtain⟨z0,z1,z2⟩:w.heap.size<w1.heap.size∧w.heap.size+1<w1.heap.size∧w.heap.size+1+1<w1.heap.size:=(by have hz_:=hb.size;(try simp at hz_);omega);have n_:Below w.heap.size w _:=below_seq (by repeat (first|exact HB|refine J8 ?_ (by dsimp only;omega) _|refine Jk ?_ (by have hs_:=HB.size;first|(simp;done)|(simp;omega)|omega) _|apply Jv)) hb;clear HB;have HB:=n_;clear n_))
   refine bodyPost_ret (v:=.tuple #[.agg #[.int .i64 0,.int .u64 0,.string (⟨#[]⟩:ByteArray)],.int .i64 50]) (by simp[results,Tryz.results93,go_sem, *];done) rfl ⟨rfl,?_⟩
   (repeat (first|exact HB|refine J8 ?_ (by dsimp only;omega) _|refine Jk ?_ (by have hs_:=HB.size;first|(simp;done)|(simp;omega)|omega) _|apply Jv))
 ·have HZ:=J0 hz
  have hkk:(4<k∧k<9):=by have:=btw_iff.1 hb;omega
  obtain⟨k4,k9⟩:=hkk
  clear hz hb
  rcases hout with ⟨ho,rfl,ht⟩|⟨ho,rfl⟩|⟨ho,rfl,ht⟩
  ·obtain⟨rfl,rfl⟩:=hfin ho
   clear hfin hfin2 hb12
   go_enter Tryz.func93,Tryz.ntmps93
   go_wp2_with (first
    |(go_at_call 90;refine(rGet_is _ hs _ HG.out _).mono ?_;rintro e w' ⟨rfl,rfl⟩)
    |(go_at_call 130;refine(rSign_is _ _ g0 g1 _ HZ.out _).mono ?_;rintro e w' ⟨rfl,rfl⟩)
    |(go_at_call 85;refine(rEncode_is _ _ _ _ _ _ d0 d1 _ _ HE.out HF.out _).mono ?_;rintro e w1 ⟨rfl,hb⟩;obtain⟨hc,hf⟩:=bcell hb;obtain⟨z0,z1,z2⟩:w.heap.size<w1.heap.size∧w.heap.size+1<w1.heap.size∧w.heap.size+1+1<w1.heap.size:=(by have hz_:=hb.size;(try simp at hz_);omega);have n_:Below w.heap.size w _:=below_seq (by repeat (first|exact HB|refine J8 ?_ (by dsimp only;omega) _|refine Jk ?_ (by have hs_:=HB.size;first|(simp;done)|(simp;omega)|omega) _|apply Jv)) hb;clear HB;have HB:=n_;clear n_))
   refine bodyPost_ret (v:=.tuple #[.agg #[.int .i64 k,.int .u64 dz,.string (⟨#[]⟩:ByteArray)],.int .i64 0]) (by simp[results,Tryz.results93,go_sem, *];done) rfl ⟨rfl,?_⟩
   (repeat (first|exact HB|refine J8 ?_ (by dsimp only;omega) _|refine Jk ?_ (by have hs_:=HB.size;first|(simp;done)|(simp;omega)|omega) _|apply Jv))
  ·obtain⟨rfl,rfl⟩:=hfin2 ho
   clear hfin hfin2 hb12
   go_enter Tryz.func93,Tryz.ntmps93
   go_wp2_with (first
    |(go_at_call 90;refine(rGet_is _ hs _ HG.out _).mono ?_;rintro e w' ⟨rfl,rfl⟩)
    |(go_at_call 130;refine(rSign_is _ _ g0 g1 _ HZ.out _).mono ?_;rintro e w' ⟨rfl,rfl⟩)
    |(go_at_call 85;refine(rEncode_is _ _ _ _ _ _ d0 d1 _ _ HE.out HF.out _).mono ?_;rintro e w1 ⟨rfl,hb⟩;obtain⟨hc,hf⟩:=bcell hb;obtain⟨z0,z1,z2⟩:w.heap.size<w1.heap.size∧w.heap.size+1<w1.heap.size∧w.heap.size+1+1<w1.heap.size:=(by have hz_:=hb.size;(try simp at hz_);omega);have n_:Below w.heap.size w _:=below_seq (by repeat (first|exact HB|refine J8 ?_ (by dsimp only;omega) _|refine Jk ?_ (by have hs_:=HB.size;first|(simp;done)|(simp;omega)|omega) _|apply Jv)) hb;clear HB;have HB:=n_;clear n_))
   refine bodyPost_ret (v:=.tuple #[.agg #[.int .i64 0,.int .u64 0,.string (⟨#[]⟩:ByteArray)],.int .i64 50]) (by simp[results,Tryz.results93,go_sem, *];done) rfl ⟨rfl,?_⟩
   (repeat (first|exact HB|refine J8 ?_ (by dsimp only;omega) _|refine Jk ?_ (by have hs_:=HB.size;first|(simp;done)|(simp;omega)|omega) _|apply Jv))
  ·obtain⟨rfl,rfl⟩:=hfin2 ho
   clear hfin hfin2 hb12
   go_enter Tryz.func93,Tryz.ntmps93
   go_wp2_with (first
    |(go_at_call 90;refine(rGet_is _ hs _ HG.out _).mono ?_;rintro e w' ⟨rfl,rfl⟩)
    |(go_at_call 130;refine(rSign_is _ _ g0 g1 _ HZ.out _).mono ?_;rintro e w' ⟨rfl,rfl⟩)
    |(go_at_call 85;refine(rEncode_is _ _ _ _ _ _ d0 d1 _ _ HE.out HF.out _).mono ?_;rintro e w1 ⟨rfl,hb⟩;obtain⟨hc,hf⟩:=bcell hb;obtain⟨z0,z1,z2⟩:w.heap.size<w1.heap.size∧w.heap.size+1<w1.heap.size∧w.heap.size+1+1<w1.heap.size:=(by have hz_:=hb.size;(try simp at hz_);omega);have n_:Below w.heap.size w _:=below_seq (by repeat (first|exact HB|refine J8 ?_ (by dsimp only;omega) _|refine Jk ?_ (by have hs_:=HB.size;first|(simp;done)|(simp;omega)|omega) _|apply Jv)) hb;clear HB;have HB:=n_;clear n_))
   refine bodyPost_ret (v:=.tuple #[.agg #[.int .i64 0,.int .u64 0,.string (⟨#[]⟩:ByteArray)],.int .i64 50]) (by simp[results,Tryz.results93,go_sem, *];done) rfl ⟨rfl,?_⟩
   (repeat (first|exact HB|refine J8 ?_ (by dsimp only;omega) _|refine Jk ?_ (by have hs_:=HB.size;first|(simp;done)|(simp;omega)|omega) _|apply Jv))
 ·subst hz
  have HZ:Hid (signZ gz s.size=signZ gz s.size):=J0 rfl
  have hkk:k≤4∨(4<k∧9≤k):=by have:=btw_not.1 hb;omega
  clear hb
  rcases hkk with k4|⟨k4,k9⟩
  all_goals
   rcases hout with ⟨ho,rfl,ht⟩|⟨ho,rfl⟩|⟨ho,rfl,ht⟩
   ·obtain⟨rfl,rfl⟩:=hfin ho
    clear hfin hfin2 hb12
    go_enter Tryz.func93,Tryz.ntmps93
    go_wp2_with (first
     |(go_at_call 90;refine(rGet_is _ hs _ HG.out _).mono ?_;rintro e w' ⟨rfl,rfl⟩)
     |(go_at_call 130;refine(rSign_is _ _ g0 g1 _ HZ.out _).mono ?_;rintro e w' ⟨rfl,rfl⟩)
     |(go_at_call 85;refine(rEncode_is _ _ _ _ _ _ d0 d1 _ _ HE.out HF.out _).mono ?_;rintro e w1 ⟨rfl,hb⟩;obtain⟨hc,hf⟩:=bcell hb;obtain⟨z0,z1,z2⟩:w.heap.size<w1.heap.size∧w.heap.size+1<w1.heap.size∧w.heap.size+1+1<w1.heap.size:=(by have hz_:=hb.size;(try simp at hz_);omega);have n_:Below w.heap.size w _:=below_seq (by repeat (first|exact HB|refine J8 ?_ (by dsimp only;omega) _|refine Jk ?_ (by have hs_:=HB.size;first|(simp;done)|(simp;omega)|omega) _|apply Jv)) hb;clear HB;have HB:=n_;clear n_))
    refine bodyPost_ret (v:=.tuple #[.agg #[.int .i64 k,.int .u64 gz,.string (⟨#[]⟩:ByteArray)],.int .i64 0]) (by simp[results,Tryz.results93,go_sem, *];done) rfl ⟨rfl,?_⟩
    (repeat (first|exact HB|refine J8 ?_ (by dsimp only;omega) _|refine Jk ?_ (by have hs_:=HB.size;first|(simp;done)|(simp;omega)|omega) _|apply Jv))
   ·obtain⟨rfl,rfl⟩:=hfin2 ho
    clear hfin hfin2 hb12
    go_enter Tryz.func93,Tryz.ntmps93
    go_wp2_with (first
     |(go_at_call 90;refine(rGet_is _ hs _ HG.out _).mono ?_;rintro e w' ⟨rfl,rfl⟩)
     |(go_at_call 130;refine(rSign_is _ _ g0 g1 _ HZ.out _).mono ?_;rintro e w' ⟨rfl,rfl⟩)
     |(go_at_call 85;refine(rEncode_is _ _ _ _ _ _ d0 d1 _ _ HE.out HF.out _).mono ?_;rintro e w1 ⟨rfl,hb⟩;obtain⟨hc,hf⟩:=bcell hb;obtain⟨z0,z1,z2⟩:w.heap.size<w1.heap.size∧w.heap.size+1<w1.heap.size∧w.heap.size+1+1<w1.heap.size:=(by have hz_:=hb.size;(try simp at hz_);omega);have n_:Below w.heap.size w _:=below_seq (by repeat (first|exact HB|refine J8 ?_ (by dsimp only;omega) _|refine Jk ?_ (by have hs_:=HB.size;first|(simp;done)|(simp;omega)|omega) _|apply Jv)) hb;clear HB;have HB:=n_;clear n_))
    refine bodyPost_ret (v:=.tuple #[.agg #[.int .i64 0,.int .u64 0,.string (⟨#[]⟩:ByteArray)],.int .i64 50]) (by simp[results,Tryz.results93,go_sem, *];done) rfl ⟨rfl,?_⟩
    (repeat (first|exact HB|refine J8 ?_ (by dsimp only;omega) _|refine Jk ?_ (by have hs_:=HB.size;first|(simp;done)|(simp;omega)|omega) _|apply Jv))
   ·obtain⟨rfl,rfl⟩:=hfin2 ho
    clear hfin hfin2 hb12
    go_enter Tryz.func93,Tryz.ntmps93
    go_wp2_with (first
     |(go_at_call 90;refine(rGet_is _ hs _ HG.out _).mono ?_;rintro e w' ⟨rfl,rfl⟩)
     |(go_at_call 130;refine(rSign_is _ _ g0 g1 _ HZ.out _).mono ?_;rintro e w' ⟨rfl,rfl⟩)
     |(go_at_call 85;refine(rEncode_is _ _ _ _ _ _ d0 d1 _ _ HE.out HF.out _).mono ?_;rintro e w1 ⟨rfl,hb⟩;obtain⟨hc,hf⟩:=bcell hb;obtain⟨z0,z1,z2⟩:w.heap.size<w1.heap.size∧w.heap.size+1<w1.heap.size∧w.heap.size+1+1<w1.heap.size:=(by have hz_:=hb.size;(try simp at hz_);omega);have n_:Below w.heap.size w _:=below_seq (by repeat (first|exact HB|refine J8 ?_ (by dsimp only;omega) _|refine Jk ?_ (by have hs_:=HB.size;first|(simp;done)|(simp;omega)|omega) _|apply Jv)) hb;clear HB;have HB:=n_;clear n_))
    refine bodyPost_ret (v:=.tuple #[.agg #[.int .i64 0,.int .u64 0,.string (⟨#[]⟩:ByteArray)],.int .i64 50]) (by simp[results,Tryz.results93,go_sem, *];done) rfl ⟨rfl,?_⟩
    (repeat (first|exact HB|refine J8 ?_ (by dsimp only;omega) _|refine Jk ?_ (by have hs_:=HB.size;first|(simp;done)|(simp;omega)|omega) _|apply Jv))
end
end Go.Proofs.YteembinfgbapgaaGreat
