/- Merged out of: Ke Kf Kg. -/
import Derived.Test.YteembinfgbapgaaGreatC00
import Derived.Test.YteembinfgbapgaaGreatC02
set_option linter.unusedSimpArgs false
set_option linter.unusedVariables false
set_option maxRecDepth 100000
set_option maxHeartbeats 8000000
namespace Go.Proofs.YteembinfgbapgaaGreat
section
open Go.RowKit
def rightB (vk bits:Int) (tx:ByteArray) (k l:Int):Bool:=mayB k l && decide (vk=k) && decide ((tx.size:Int)=if k=12 then l else 0) && fitB bits k l
theorem may_is (s:ByteArray) (k l:Int) (r:Bool) (h:mayB k l=r) (w:World):Calls Tryz.prog 127 #[.agg #[.string s,.int .i64 k,.int .i64 l]] w fun e w'=>e=.returned (.bool r)∧Below w.heap.size w w':=h▸may_calls s k l w
theorem Right_calls (vk bits:Int) (tx s:ByteArray) (k l:Int) (h0:0≤bits) (h1:bits<18446744073709551616) (w:World):
 Calls Tryz.prog 95 #[.agg #[.int .i64 vk,.int .u64 bits,.string tx],.agg #[.string s,.int .i64 k,.int .i64 l]] w fun e w'=>e=.returned (.bool (rightB vk bits tx k l))∧Below w.heap.size w w':=by
 have hmf:∀(fn:Fn) (first cap:Array Value) (w:World),(Instr.makeFunc fn first cap).run Tryz.prog w=.ok (.func fn first cap) w:=fun _ _ _ _=>rfl
 obtain⟨r,hr⟩:∃r,mayB k l=r:=⟨_,rfl⟩
 have H:=J0 hr
 clear hr
 cases r
 ·go_enter Tryz.func95,Tryz.ntmps95
  go_wp2_with (first|(go_at_call 127;refine(may_is _ _ _ _ H.out _).mono ?_;rintro e w1 ⟨rfl,hb⟩;obtain⟨hc,hf⟩:=bcell hb))
  all_goals
   go_ret
   refine⟨ret_bool (by simp[rightB,H.out]),?_⟩
   exact below_seq ((below_new _).alloc (by simp) _) hb
 ·go_enter Tryz.func95,Tryz.ntmps95
  go_wp2_with (first|(go_at_call 127;refine(may_is _ _ _ _ H.out _).mono ?_;rintro e w1 ⟨rfl,hb⟩;obtain⟨hc,hf⟩:=bcell hb)|(go_at_call 132;refine(fits_calls _ _ s k l bits h0 h1 _ (by rw[hc _ _ (by simp)];simp[go_sem]) (by rw[hc _ _ (by simp)];simp[go_sem]) (by rw[hc _ _ (by simp)];simp[go_sem]) (by rw[hc _ _ (by simp;omega)];simp[go_sem])).mono ?_;rintro e w2 ⟨rfl,hb2⟩))
  all_goals
   go_ret
   refine⟨ret_bool (by rw[rightB,H.out];simp only[beq_iff_eq,beq_eq_false_iff_ne,ne_eq] at *;first|(simp[*];done)|grind),?_⟩
   first|exact below_seq (below_seq ((below_new _).alloc (by simp) _) hb) hb2|exact below_seq ((below_new _).alloc (by simp) _) hb
theorem Right_is (vk bits:Int) (tx s:ByteArray) (k l:Int) (h0:0≤bits) (h1:bits<18446744073709551616) (r:Bool) (h:rightB vk bits tx k l=r) (w:World):
 Calls Tryz.prog 95 #[.agg #[.int .i64 vk,.int .u64 bits,.string tx],.agg #[.string s,.int .i64 k,.int .i64 l]] w fun e w'=>e=.returned (.bool r)∧Below w.heap.size w w':=h▸Right_calls vk bits tx s k l h0 h1 w
theorem Long_is (s:ByteArray) (k l:Int) (r:Int) (h:longZ k l=r) (w:World):Calls Tryz.prog 89 #[.agg #[.string s,.int .i64 k,.int .i64 l]] w fun e w'=>e=.returned (.int .i64 r)∧Below w.heap.size w w':=h▸Long_calls s k l w
def castsB (k l k2 l2:Int):Bool:=
 if longZ k l=0∨longZ k2 l2=0 then false
 else if k=k2 then true
 else if k=9 then btw 1 k2 4 || (btw 5 k2 8 && decide (longZ k l<longZ k2 l2))
 else if btw 1 k 4=true then(btw 1 k2 8 && decide (longZ k l<longZ k2 l2)) || decide (k2=10)
 else if btw 5 k 8=true then(btw 5 k2 8 && decide (longZ k l<longZ k2 l2)) || decide (k2=10)
 else decide (k=10) && decide (k2=8)
theorem Casts_calls (s s2:ByteArray) (k l k2 l2:Int) (w:World):Calls Tryz.prog 108 #[.agg #[.string s,.int .i64 k,.int .i64 l],.agg #[.string s2,.int .i64 k2,.int .i64 l2]] w fun e w'=>e=.returned (.bool (castsB k l k2 l2))∧Below w.heap.size w w':=by
 go_enter Tryz.func108,Tryz.ntmps108
 go_wp2_with (first|(go_at_call 109;refine(plain_calls _ _).mono ?_;rintro e w' ⟨rfl,rfl⟩)|(go_at_call 111;refine(signed_calls _ _).mono ?_;rintro e w' ⟨rfl,rfl⟩)|(go_at_call 89;refine(Long_calls _ _ _ _).mono ?_;rintro e w1 ⟨rfl,hb⟩;obtain⟨hc,hf⟩:=bcell hb))
 obtain⟨W,hW⟩:∃W:World,W=(w.alloc (.cells #[.string s,.int .i64 k,.int .i64 l] 68)).alloc (.cells #[.string s2,.int .i64 k2,.int .i64 l2] 68):=⟨_,rfl⟩
 have hBW:Below w.heap.size w W:=hW▸(below_new _).alloc (by simp) _
 have b1:FBox W w.heap.size s k l:=hW▸(FBox.new w s k l).alloc _
 have b2:FBox W (w.heap.size+1) s2 k2 l2:=hW▸(by simpa using FBox.new (w.alloc (.cells #[.string s,.int .i64 k,.int .i64 l] 68)) s2 k2 l2)
 rw[←hW]
 clear hW
 refine RW.start (fun w'=>Below w.heap.size w w'∧FBox w' w.heap.size s k l∧FBox w' (w.heap.size+1) s2 k2 l2) (by kernel_rfl) (by kernel_rfl) ⟨hBW.drew,b1,b2⟩ ?_
 clear b1 b2 hBW
 repeat (first
  |(refine' RW.val (by rfl) ?_ ?_;rotate_left;(focus (intro w' hS;obtain⟨hB,⟨c0,c1,c2⟩,⟨d0,d1,d2⟩⟩:=hS;go_simp;rfl));simp only[Act.put,J1,J3,J2])
  |(refine RW.off (by rfl) ?_;simp only[Act.put,J1,J3,J2])
  |(refine' RW.call (by rfl) ?_ ?_ ?_
    rotate_left 3
    (focus (intro w' hS;obtain⟨hB,⟨c0,c1,c2⟩,⟨d0,d1,d2⟩⟩:=hS;go_simp;exact⟨rfl,rfl⟩))
    (focus
      intro w' hS
      obtain⟨hB,⟨c0,c1,c2⟩,⟨d0,d1,d2⟩⟩:=hS
      first
       |(refine(Long_calls _ _ _ _).mono ?_;rintro e w1 ⟨rfl,hb⟩;exact⟨rfl,⟨(below_seq hB hb),⟨(cell_below (B:=0) hb c0),(cell_below (B:=0) hb c1),(cell_below (B:=0) hb c2)⟩,⟨(cell_below (B:=0) hb d0),(cell_below (B:=0) hb d1),(cell_below (B:=0) hb d2)⟩⟩⟩))
    simp only[Act.put,J1,J3,J2]))
 refine RW.done (fun w' hS=>?_)
 obtain⟨hB,⟨c0,c1,c2⟩,⟨d0,d1,d2⟩⟩:=hS
 go_wp2_with fail
 refine RW.start (fun w'=>Below w.heap.size w w'∧FBox w' w.heap.size s k l∧FBox w' (w.heap.size+1) s2 k2 l2) (by kernel_rfl) (by kernel_rfl) ⟨hB.drew,⟨c0,c1,c2⟩,⟨d0,d1,d2⟩⟩ ?_
 clear c0 c1 c2 d0 d1 d2 hB w'
 repeat (first
  |(refine' RW.val (by rfl) ?_ ?_;rotate_left;(focus (intro w' hS;obtain⟨hB,⟨c0,c1,c2⟩,⟨d0,d1,d2⟩⟩:=hS;go_simp;rfl));simp only[Act.put,J1,J3,J2])
  |(refine RW.off (by rfl) ?_;simp only[Act.put,J1,J3,J2]))
 refine RW.done (fun w' hS=>?_)
 obtain⟨hB,⟨c0,c1,c2⟩,⟨d0,d1,d2⟩⟩:=hS
 clear c0 c1 c2 d0 d1 d2
 go_wp2_with (first|(go_at_call 109;refine(plain_calls _ _).mono ?_;rintro e w' ⟨rfl,rfl⟩)|(go_at_call 111;refine(signed_calls _ _).mono ?_;rintro e w' ⟨rfl,rfl⟩))
 all_goals
  go_ret
  refine⟨ret_bool ?_,hB⟩
  clear hB
  try simp only[beq_iff_eq,beq_eq_false_iff_ne,ne_eq] at *
  rw[Qx]
  try simp only[castsB,btw,decide_eq_true_eq,decide_eq_false_iff_not] at *
  grind
theorem mayB_12 {l:Int}:mayB 12 l=btw 1 l 64:=by simp[mayB]
theorem mayB_of {k l:Int} (h:mayB k l=true) (hk:¬k=12):l=0∧0<sizeZ k:=by
 simp[mayB,hk] at h;omega
def zeroL (k l:Int):ByteArray:=if k=12 then strL (List.replicate l.toNat 0) else⟨#[]⟩
def zeroV (k l:Int):Value:=if mayB k l=true then .agg #[.int .i64 k,.int .u64 0,.string (zeroL k l)] else .agg #[.int .i64 0,.int .u64 0,.string ⟨#[]⟩]
def encL (bits:Int) (tx:ByteArray) (k l:Int):List UInt8:=if k=12 then bl tx else leL bits (longZ k l).toNat
theorem Encode_none (vk bits:Int) (tx s:ByteArray) (k l:Int) (h0:0≤bits) (h1:bits<18446744073709551616) (h:rightB vk bits tx k l=false) (w:World):
 Calls Tryz.prog 61 #[.agg #[.int .i64 vk,.int .u64 bits,.string tx],.agg #[.string s,.int .i64 k,.int .i64 l]] w fun e w'=>e=.returned (.tuple #[.slice none 0 0,.int .i64 50])∧Below w.heap.size w w':=by
 have H:=J0 h
 clear h
 go_enter Tryz.func61,Tryz.ntmps61
 go_wp2_with (first|(go_at_call 95;refine(Right_is _ _ _ _ _ _ h0 h1 _ H.out _).mono ?_;rintro e w1 ⟨rfl,hb⟩))
 go_ret2
 exact⟨rfl,below_seq ((below_new _).alloc (by simp) _) hb⟩
theorem long_cases {k l:Int} (h:mayB k l=true) (hk:¬k=12):longZ k l=1∨longZ k l=2∨longZ k l=4∨longZ k l=8:=by
 have h2:=(mayB_of h hk).2
 rw[longZ,if_pos h,if_neg hk]
 unfold sizeZ at h2 ⊢
 split <;> (try split) <;> (try split) <;> (try split) <;> simp_all
theorem long_12 {l:Int} (h:mayB 12 l=true):longZ 12 l=l:=by simp[longZ,h]
theorem right_may {vk bits:Int} {tx:ByteArray} {k l:Int} (h:rightB vk bits tx k l=true):mayB k l=true∧vk=k∧((tx.size:Int)=if k=12 then l else 0)∧fitB bits k l=true:=by
 simp only[rightB,Qy,decide_eq_true_eq] at h
 exact⟨h.1.1.1,h.1.1.2,h.1.2,h.2⟩
theorem Encode_some (vk bits:Int) (tx s:ByteArray) (k l:Int) (h0:0≤bits) (h1:bits<18446744073709551616) (h:rightB vk bits tx k l=true) (w:World):
 Calls Tryz.prog 61 #[.agg #[.int .i64 vk,.int .u64 bits,.string tx],.agg #[.string s,.int .i64 k,.int .i64 l]] w fun e w'=>∃v,e=.returned (.tuple #[v,.int .i64 0])∧OutB w' v (encL bits tx k l)∧Below w.heap.size w w':=by
 have H:=J0 h
 have hm:=(right_may h).1
 clear h
 by_cases hk:k=12
 ·subst hk
  have hcb:=conv_bytes tx
  clear hm
  go_enter Tryz.func61,Tryz.ntmps61
  go_wp2_with (first|(go_at_call 95;refine(Right_is _ _ _ _ _ _ h0 h1 _ H.out _).mono ?_;rintro e w1 ⟨rfl,hb⟩;obtain⟨hc,hf⟩:=bcell hb))
  go_ret2
  refine⟨.slice (some ⟨w1.heap.size,0,none⟩) tx.size (grownCap w1 tx.size 0 5),rfl,⟨_,_,by rw[encL,if_pos rfl,bl_length],?_,?_⟩,?_⟩
  ·rw[encL,if_pos rfl,bl_length];exact grownCap_ge ..
  ·rw[encL,if_pos rfl];exact bytesWorld_rd _ _ _
  ·exact below_seq (below_seq ((below_new _).alloc (by simp) _) hb) (bytesWorld_below _ _ _)
 ·have hlc:=long_cases hm hk
  have hk':(k == 12)=false:=by simpa using hk
  obtain⟨n,hn⟩:∃n:Nat,longZ k l=n:=⟨(longZ k l).toNat,by omega⟩
  have hn8:n≤8:=by omega
  have HN:=J0 hn
  clear hn hlc hm
  go_enter Tryz.func61,Tryz.ntmps61
  go_wp2_with (first
   |(go_at_call 95;refine(Right_is _ _ _ _ _ _ h0 h1 _ H.out _).mono ?_;rintro e w1 ⟨rfl,hb⟩;obtain⟨hc,hf⟩:=bcell hb;obtain⟨z0,z1⟩:w.heap.size<w1.heap.size∧w.heap.size+1<w1.heap.size:=by (have:=hb.size;simp at this;omega))
   |(go_at_call 94;refine(Put_some bits 8 (by omega) (by simp[fitsB,widthB,topZ];omega) h0 h1 _).mono ?_;rintro e w2 ⟨v,rfl,hown,hb2⟩;obtain⟨A,c,rfl,hlen,_,hrd⟩:=own_rd hown;obtain⟨hc2,hf2⟩:=bcell hb2;clear hown)
   |(go_at_call 89;refine(Long_is _ _ _ _ HN.out _).mono ?_;rintro e w3 ⟨rfl,hb3⟩))
  go_ret2
  have hlt:(leL bits 8).take n=leL bits n:=by
   apply Xv
   intro j
   simp only[leL,X9,Kv,List.getElem?_range']
   by_cases h:j<n
   ·simp[h,show j<8 by omega]
   ·simp[h,Xy (show(List.range n).length≤j by simp;omega)]
  have hel:encL bits tx k l=leL bits n:=by rw[encL,if_neg hk,HN.out];rfl
  have hrd3:=(hrd.below hb3).take n
  rw[bytesV,←List.map_take,hlt] at hrd3
  refine⟨.slice A n c,rfl,⟨A,c,by rw[hel,leL_length],by rw[hel,leL_length];omega,by rw[hel];exact hrd3⟩,?_⟩
  exact below_seq (below_seq (below_seq ((below_new _).alloc (by simp) _) hb) hb2) hb3
theorem Sign_is (n width:Int) (h0:0≤n) (h1:n<18446744073709551616) (r:Int) (h:signZ n width=r) (w:World):Calls Tryz.prog 126 #[.int .u64 n,.int .i64 width] w fun e w'=>e=.returned (.int .u64 r)∧w=w':=h▸Sign_calls n width h0 h1 w
theorem signed_is (k:Int) (r:Bool) (h:btw 5 k 8=r) (w:World):Calls Tryz.prog 111 #[.int .i64 k] w fun e w'=>e=.returned (.bool r)∧w=w':=h▸signed_calls k w
theorem Long_eq (s:ByteArray) (k l:Int) (r:Int) (h:longZ k l=r) (w:World):Calls Tryz.prog 89 #[.agg #[.string s,.int .i64 k,.int .i64 l]] w fun e w'=>e=.returned (.int .i64 r)∧Below w.heap.size w w':=h▸Long_calls s k l w
def rawZ (l:List UInt8) (k long:Int):Int:=if k=12 then 0 else if (l.length:Int)=longZ k long∧widthB l.length=true then numL l else 0
def decZ (l:List UInt8) (k long:Int):Int:=if btw 5 k 8=true then signZ (rawZ l k long) l.length else rawZ l k long
def decT (l:List UInt8) (k:Int):ByteArray:=if k=12 then strL l else⟨#[]⟩
def decB (l:List UInt8) (k long:Int):Bool:=decide ((l.length:Int)=longZ k long) && rightB k (decZ l k long) (decT l k) k long
def decV (l:List UInt8) (k long:Int):Value:=if decB l k long=true then .agg #[.int .i64 k,.int .u64 (decZ l k long),.string (decT l k)] else .agg #[.int .i64 0,.int .u64 0,.string ⟨#[]⟩]
def decE (l:List UInt8) (k long:Int):Int:=if decB l k long=true then 0 else 50
theorem width_nat {n:Nat} (h:widthB n=true):n≤8:=by have:=width_cases h;omega
theorem rawZ_bd (l:List UInt8) (k long:Int):0≤rawZ l k long∧rawZ l k long<18446744073709551616:=by
 unfold rawZ
 split
 ·omega
 ·split
  ·rename_i h;exact numL_bd l (width_nat h.2)
  ·omega
theorem signZ_bd (n width:Int) (h0:0≤n) (h1:n<18446744073709551616):0≤signZ n width∧signZ n width<18446744073709551616:=by
 unfold signZ
 split
 ·rename_i h
  have ht:topZ width=256∨topZ width=65536∨topZ width=4294967296∨topZ width=18446744073709551616:=by unfold topZ;split <;> (try split) <;> (try split) <;> simp
  rcases ht with h|h|h|h <;> rw[h] <;> split <;> omega
 ·omega
theorem decZ_bd (l:List UInt8) (k long:Int):0≤decZ l k long∧decZ l k long<18446744073709551616:=by
 unfold decZ
 have:=rawZ_bd l k long
 split
 ·exact signZ_bd _ _ this.1 this.2
 ·exact this
theorem decV_ok {l:List UInt8} {k long:Int} (h:decB l k long=true):decV l k long=.agg #[.int .i64 k,.int .u64 (decZ l k long),.string (decT l k)]∧decE l k long=0:=by simp[decV,decE,h]
theorem decV_no {l:List UInt8} {k long:Int} (h:decB l k long=false):decV l k long=.agg #[.int .i64 0,.int .u64 0,.string ⟨#[]⟩]∧decE l k long=50:=by simp[decV,decE,h]
theorem Decode_12 (A:Option Addr) (c:Nat) (l:List UInt8) (s:ByteArray) (long:Int) (w:World) (hA:Rd w A (bytesV l)) (hl:l.length≤9223372036854775807):
 Calls Tryz.prog 88 #[.slice A l.length c,.agg #[.string s,.int .i64 12,.int .i64 long]] w fun e w'=>e=.returned (.tuple #[decV l 12 long,.int .i64 (decE l 12 long)])∧Below w.heap.size w w':=by
 obtain⟨r,hr⟩:∃r,rightB 12 0 (strL l) 12 long=r:=⟨_,rfl⟩
 have H:=J0 hr
 have hz:decZ l 12 long=0:=by simp[decZ,rawZ,btw]
 have ht:decT l 12=strL l:=by simp[decT]
 have hd:decB l 12 long=(decide ((l.length:Int)=longZ 12 long) && r):=by rw[decB,hz,ht,hr]
 clear hr
 have hb0:Below w.heap.size w ((w.alloc (.cells #[.string s,.int .i64 12,.int .i64 long] 68)).alloc (.cells #[.int .i64 0,.int .u64 0,.string ⟨#[]⟩] 71)):=(below_new _).alloc (by simp) _
 have hcv:=fun o=>conv_str ((hA.below hb0).below (below_new o)) c
 clear hA
 by_cases hlen:(l.length:Int)=longZ 12 long
 ·have H2:=J0 hlen
  cases r
  ·obtain⟨hv,he⟩:=decV_no (hd.trans (by simp))
   rw[hv,he]
   clear hd hz ht hv he hlen
   go_enter Tryz.func88,Tryz.ntmps88
   go_wp2_with (first
    |(go_at_call 111;refine(signed_is 12 false rfl _).mono ?_;rintro e w' ⟨rfl,rfl⟩)
    |(go_at_call 89;refine(Long_eq _ _ _ _ H2.out.symm _).mono ?_;rintro e w1 ⟨rfl,hb⟩;obtain⟨hc,hf⟩:=bcell hb;obtain⟨z0,z1,z2⟩:w.heap.size<w1.heap.size∧w.heap.size+1<w1.heap.size∧w.heap.size+1+1<w1.heap.size:=(by have hz_:=hb.size;(try simp at hz_);omega))
    |(go_at_call 95;refine(Right_is _ _ _ _ _ _ (by omega) (by omega) _ H.out _).mono ?_;rintro e w2 ⟨rfl,hb2⟩;obtain⟨hc2,hf2⟩:=bcell hb2;obtain⟨y0,y1,y2⟩:w.heap.size<w2.heap.size∧w.heap.size+1<w2.heap.size∧w.heap.size+1+1<w2.heap.size:=(by have hz_:=hb2.size;(try simp at hz_);omega)))
   refine bodyPost_ret (v:=.tuple #[.agg #[.int .i64 0,.int .u64 0,.string ⟨#[]⟩],.int .i64 50]) (by simp[results,Tryz.results88,go_sem, *]) rfl ⟨rfl,?_⟩
   have hB1:=below_seq (hb0.alloc (by simp;omega) (.cells #[.int .i64 12,.int .u64 0,.string (strL l)] 71)) (below_seq hb hb2)
   repeat (first|exact hB1|refine J8 ?_ (by dsimp only;omega) _|refine Jk ?_ (by simp;omega) _)
  ·obtain⟨hv,he⟩:=decV_ok (hd.trans (by simpa using hlen))
   rw[hv,he,hz,ht]
   clear hd hz ht hv he hlen
   go_enter Tryz.func88,Tryz.ntmps88
   go_wp2_with (first
    |(go_at_call 111;refine(signed_is 12 false rfl _).mono ?_;rintro e w' ⟨rfl,rfl⟩)
    |(go_at_call 89;refine(Long_eq _ _ _ _ H2.out.symm _).mono ?_;rintro e w1 ⟨rfl,hb⟩;obtain⟨hc,hf⟩:=bcell hb;obtain⟨z0,z1,z2⟩:w.heap.size<w1.heap.size∧w.heap.size+1<w1.heap.size∧w.heap.size+1+1<w1.heap.size:=(by have hz_:=hb.size;(try simp at hz_);omega))
    |(go_at_call 95;refine(Right_is _ _ _ _ _ _ (by omega) (by omega) _ H.out _).mono ?_;rintro e w2 ⟨rfl,hb2⟩;obtain⟨hc2,hf2⟩:=bcell hb2;obtain⟨y0,y1,y2⟩:w.heap.size<w2.heap.size∧w.heap.size+1<w2.heap.size∧w.heap.size+1+1<w2.heap.size:=(by have hz_:=hb2.size;(try simp at hz_);omega)))
   refine bodyPost_ret (v:=.tuple #[.agg #[.int .i64 12,.int .u64 0,.string (strL l)],.int .i64 0]) (by simp[results,Tryz.results88,go_sem, *]) rfl ⟨rfl,?_⟩
   have hB1:=below_seq (hb0.alloc (by simp;omega) (.cells #[.int .i64 12,.int .u64 0,.string (strL l)] 71)) (below_seq hb hb2)
   repeat (first|exact hB1|refine J8 ?_ (by dsimp only;omega) _|refine Jk ?_ (by simp;omega) _)
 ·have hne:((l.length:Int) != longZ 12 long)=true:=by simpa using hlen
  obtain⟨hv,he⟩:=decV_no (hd.trans (by simp[hlen]))
  rw[hv,he]
  obtain⟨lz,hlz⟩:∃z,longZ 12 long=z:=⟨_,rfl⟩
  rw[hlz] at hne
  have H2:=J0 hlz
  clear hd hz ht hv he hlen hlz
  go_enter Tryz.func88,Tryz.ntmps88
  go_wp2_with (first
   |(go_at_call 111;refine(signed_is 12 false rfl _).mono ?_;rintro e w' ⟨rfl,rfl⟩)
   |(go_at_call 89;refine(Long_eq _ _ _ _ H2.out _).mono ?_;rintro e w1 ⟨rfl,hb⟩;obtain⟨hc,hf⟩:=bcell hb;obtain⟨z0,z1,z2⟩:w.heap.size<w1.heap.size∧w.heap.size+1<w1.heap.size∧w.heap.size+1+1<w1.heap.size:=(by have hz_:=hb.size;(try simp at hz_);omega)))
  refine bodyPost_ret (v:=.tuple #[.agg #[.int .i64 0,.int .u64 0,.string ⟨#[]⟩],.int .i64 50]) (by simp[results,Tryz.results88,go_sem, *]) rfl ⟨rfl,?_⟩
  have hB1:=below_seq (hb0.alloc (by simp;omega) (.cells #[.int .i64 12,.int .u64 0,.string (strL l)] 71)) hb
  repeat (first|exact hB1|refine J8 ?_ (by dsimp only;omega) _|refine Jk ?_ (by simp;omega) _)
def getZ (l:List UInt8):Int:=if widthB l.length=true then numL l else 0
theorem getZ_bd (l:List UInt8):0≤getZ l∧getZ l<18446744073709551616:=by
 unfold getZ;split
 ·rename_i h;exact numL_bd l (width_nat h)
 ·omega
theorem Get_all (A:Option Addr) (c:Nat) (l:List UInt8) (w:World) (hA:Rd w A (bytesV l)) (hl:l.length≤9223372036854775807):
 Calls Tryz.prog 86 #[.slice A l.length c,.int .i64 0,.int .i64 (l.length:Int)] w fun e w'=>e=.returned (.tuple #[.int .u64 (getZ l),.bool (widthB l.length)])∧Below w.heap.size w w':=by
 by_cases h:widthB l.length=true
 ·have:=Get_some A c l 0 l.length w hA (width_nat h) h (by omega) hl
  simpa[getZ,h] using this
 ·rw[Bool.not_eq_true] at h
  have:=Get_none A l.length c 0 l.length w hl (.inl h)
  simpa[getZ,h] using this
theorem Decode_eq (A:Option Addr) (c:Nat) (l:List UInt8) (s:ByteArray) (k long:Int) (hk:¬k=12) (hlen:(l.length:Int)=longZ k long) (w:World) (hA:Rd w A (bytesV l)) (hl:l.length≤9223372036854775807):
 Calls Tryz.prog 88 #[.slice A l.length c,.agg #[.string s,.int .i64 k,.int .i64 long]] w fun e w'=>e=.returned (.tuple #[decV l k long,.int .i64 (decE l k long)])∧Below w.heap.size w w':=by
 have hk':(k == 12)=false:=by simpa using hk
 have hraw:rawZ l k long=getZ l:=by rw[rawZ,if_neg hk,getZ];simp[hlen]
 have ht:decT l k=⟨#[]⟩:=by simp[decT,hk]
 have hb0:Below w.heap.size w ((w.alloc (.cells #[.string s,.int .i64 k,.int .i64 long] 68)).alloc (.cells #[.int .i64 0,.int .u64 0,.string ⟨#[]⟩] 71)):=(below_new _).alloc (by simp) _
 have hA0:=fun o=>((hA.below hb0).below (below_new o))
 obtain⟨g0,g1⟩:=getZ_bd l
 obtain⟨d0,d1⟩:=decZ_bd l k long
 obtain⟨r,hr⟩:∃r,rightB k (decZ l k long) ⟨#[]⟩ k long=r:=⟨_,rfl⟩
 have hd:decB l k long=r:=by rw[decB,ht,hr];simp[hlen]
 obtain⟨sg,hsg⟩:∃b,btw 5 k 8=b:=⟨_,rfl⟩
 obtain⟨z,hz⟩:∃z,decZ l k long=z:=⟨_,rfl⟩
 rw[hz] at hr d0 d1
 have hzs:if sg=true then signZ (getZ l) l.length=z else getZ l=z:=by rw[←hz,decZ,hraw,hsg];split <;> simp_all
 obtain⟨gz,hgz⟩:∃g,getZ l=g:=⟨_,rfl⟩
 rw[hgz] at hzs g0 g1
 have HG:=J0 hgz
 have H2:=J0 hlen
 have H:=J0 hr
 have HS:=J0 hsg
 have hzs':(sg=true→signZ gz l.length=z)∧(sg=false→gz=z):=by cases sg <;> simp_all
 obtain⟨hz1,hz2⟩:=hzs'
 clear hgz hraw hlen hr hsg hzs hA
 have HB:=hb0
 clear hb0
 have hB2:Below w.heap.size w w:=Jy _ _
 cases sg
 ·obtain rfl:=hz2 rfl
  have HZ:Hid (signZ gz l.length=signZ gz l.length):=J0 rfl
  clear hz1 hz2
  cases r
  ·obtain⟨hv,he⟩:=decV_no hd
   rw[hv,he]
   clear hv he hd hz ht
   go_enter Tryz.func88,Tryz.ntmps88
   go_wp2_with (first
    |(go_at_call 111;refine(signed_is _ _ HS.out _).mono ?_;rintro e w' ⟨rfl,rfl⟩)
    |(go_at_call 126;refine(Sign_is _ _ g0 g1 _ HZ.out _).mono ?_;rintro e w' ⟨rfl,rfl⟩)
    |(go_at_call 86;refine(Get_all A c l _ ((hA0 _).below hb) hl).mono ?_;rw[HG.out];rintro e w3 ⟨rfl,hb3⟩;have hb:=hb3;obtain⟨hc,hf⟩:=bcell hb;obtain⟨x0,x1,x2⟩:w.heap.size<w3.heap.size∧w.heap.size+1<w3.heap.size∧w.heap.size+1+1<w3.heap.size:=(by have hz_:=hb.size;(try simp at hz_);omega);have n_:Below w.heap.size w _:=below_seq (by repeat (first|exact HB|refine J8 ?_ (by dsimp only;omega) _|refine Jk ?_ (by have hs_:=HB.size;first|(simp;done)|(simp;omega)|omega) _|apply Jv)) hb;clear HB;have HB:=n_;clear n_)
    |(go_at_call 89;refine(Long_eq _ _ _ _ H2.out.symm _).mono ?_;rintro e w1 ⟨rfl,hb⟩;obtain⟨hc,hf⟩:=bcell hb;obtain⟨z0,z1,z2⟩:w.heap.size<w1.heap.size∧w.heap.size+1<w1.heap.size∧w.heap.size+1+1<w1.heap.size:=(by have hz_:=hb.size;(try simp at hz_);omega);have n_:Below w.heap.size w _:=below_seq (by repeat (first|exact HB|refine J8 ?_ (by dsimp only;omega) _|refine Jk ?_ (by have hs_:=HB.size;first|(simp;done)|(simp;omega)|omega) _|apply Jv)) hb;clear HB;have HB:=n_;clear n_)
    |(go_at_call 95;refine(Right_is _ _ _ _ _ _ d0 d1 _ H.out _).mono ?_;rintro e w2 ⟨rfl,hb⟩;obtain⟨hc,hf⟩:=bcell hb;obtain⟨z0,z1,z2⟩:w.heap.size<w2.heap.size∧w.heap.size+1<w2.heap.size∧w.heap.size+1+1<w2.heap.size:=(by have hz_:=hb.size;(try simp at hz_);omega);have n_:Below w.heap.size w _:=below_seq (by repeat (first|exact HB|refine J8 ?_ (by dsimp only;omega) _|refine Jk ?_ (by have hs_:=HB.size;first|(simp;done)|(simp;omega)|omega) _|apply Jv)) hb;clear HB;have HB:=n_;clear n_))
   refine bodyPost_ret (v:=.tuple #[.agg #[.int .i64 0,.int .u64 0,.string ⟨#[]⟩],.int .i64 50]) (by simp[results,Tryz.results88,go_sem, *]) rfl ⟨rfl,?_⟩
   (repeat (first|exact HB|refine J8 ?_ (by dsimp only;omega) _|refine Jk ?_ (by have hs_:=HB.size;first|(simp;done)|(simp;omega)|omega) _|apply Jv))
  ·obtain⟨hv,he⟩:=decV_ok hd
   rw[hv,he,hz,ht]
   clear hv he hd hz ht
   go_enter Tryz.func88,Tryz.ntmps88
   go_wp2_with (first
    |(go_at_call 111;refine(signed_is _ _ HS.out _).mono ?_;rintro e w' ⟨rfl,rfl⟩)
    |(go_at_call 126;refine(Sign_is _ _ g0 g1 _ HZ.out _).mono ?_;rintro e w' ⟨rfl,rfl⟩)
    |(go_at_call 86;refine(Get_all A c l _ ((hA0 _).below hb) hl).mono ?_;rw[HG.out];rintro e w3 ⟨rfl,hb3⟩;have hb:=hb3;obtain⟨hc,hf⟩:=bcell hb;obtain⟨x0,x1,x2⟩:w.heap.size<w3.heap.size∧w.heap.size+1<w3.heap.size∧w.heap.size+1+1<w3.heap.size:=(by have hz_:=hb.size;(try simp at hz_);omega);have n_:Below w.heap.size w _:=below_seq (by repeat (first|exact HB|refine J8 ?_ (by dsimp only;omega) _|refine Jk ?_ (by have hs_:=HB.size;first|(simp;done)|(simp;omega)|omega) _|apply Jv)) hb;clear HB;have HB:=n_;clear n_)
    |(go_at_call 89;refine(Long_eq _ _ _ _ H2.out.symm _).mono ?_;rintro e w1 ⟨rfl,hb⟩;obtain⟨hc,hf⟩:=bcell hb;obtain⟨z0,z1,z2⟩:w.heap.size<w1.heap.size∧w.heap.size+1<w1.heap.size∧w.heap.size+1+1<w1.heap.size:=(by have hz_:=hb.size;(try simp at hz_);omega);have n_:Below w.heap.size w _:=below_seq (by repeat (first|exact HB|refine J8 ?_ (by dsimp only;omega) _|refine Jk ?_ (by have hs_:=HB.size;first|(simp;done)|(simp;omega)|omega) _|apply Jv)) hb;clear HB;have HB:=n_;clear n_)
    |(go_at_call 95;refine(Right_is _ _ _ _ _ _ d0 d1 _ H.out _).mono ?_;rintro e w2 ⟨rfl,hb⟩;obtain⟨hc,hf⟩:=bcell hb;obtain⟨z0,z1,z2⟩:w.heap.size<w2.heap.size∧w.heap.size+1<w2.heap.size∧w.heap.size+1+1<w2.heap.size:=(by have hz_:=hb.size;(try simp at hz_);omega);have n_:Below w.heap.size w _:=below_seq (by repeat (first|exact HB|refine J8 ?_ (by dsimp only;omega) _|refine Jk ?_ (by have hs_:=HB.size;first|(simp;done)|(simp;omega)|omega) _|apply Jv)) hb;clear HB;have HB:=n_;clear n_))
   refine bodyPost_ret (v:=.tuple #[.agg #[.int .i64 k,.int .u64 gz,.string ⟨#[]⟩],.int .i64 0]) (by simp[results,Tryz.results88,go_sem, *]) rfl ⟨rfl,?_⟩
   (repeat (first|exact HB|refine J8 ?_ (by dsimp only;omega) _|refine Jk ?_ (by have hs_:=HB.size;first|(simp;done)|(simp;omega)|omega) _|apply Jv))
 ·have hss:=setCell_twice
  have HZ:=J0 (hz1 rfl)
  clear hz1 hz2
  cases r
  ·obtain⟨hv,he⟩:=decV_no hd
   rw[hv,he]
   clear hv he hd hz ht
   go_enter Tryz.func88,Tryz.ntmps88
   go_wp2_with (first
    |(go_at_call 111;refine(signed_is _ _ HS.out _).mono ?_;rintro e w' ⟨rfl,rfl⟩)
    |(go_at_call 126;refine(Sign_is _ _ g0 g1 _ HZ.out _).mono ?_;rintro e w' ⟨rfl,rfl⟩)
    |(go_at_call 86;refine(Get_all A c l _ ((hA0 _).below hb) hl).mono ?_;rw[HG.out];rintro e w3 ⟨rfl,hb3⟩;have hb:=hb3;obtain⟨hc,hf⟩:=bcell hb;obtain⟨x0,x1,x2⟩:w.heap.size<w3.heap.size∧w.heap.size+1<w3.heap.size∧w.heap.size+1+1<w3.heap.size:=(by have hz_:=hb.size;(try simp at hz_);omega);have n_:Below w.heap.size w _:=below_seq (by repeat (first|exact HB|refine J8 ?_ (by dsimp only;omega) _|refine Jk ?_ (by have hs_:=HB.size;first|(simp;done)|(simp;omega)|omega) _|apply Jv)) hb;clear HB;have HB:=n_;clear n_)
    |(go_at_call 89;refine(Long_eq _ _ _ _ H2.out.symm _).mono ?_;rintro e w1 ⟨rfl,hb⟩;obtain⟨hc,hf⟩:=bcell hb;obtain⟨z0,z1,z2⟩:w.heap.size<w1.heap.size∧w.heap.size+1<w1.heap.size∧w.heap.size+1+1<w1.heap.size:=(by have hz_:=hb.size;(try simp at hz_);omega);have n_:Below w.heap.size w _:=below_seq (by repeat (first|exact HB|refine J8 ?_ (by dsimp only;omega) _|refine Jk ?_ (by have hs_:=HB.size;first|(simp;done)|(simp;omega)|omega) _|apply Jv)) hb;clear HB;have HB:=n_;clear n_)
    |(go_at_call 95;refine(Right_is _ _ _ _ _ _ d0 d1 _ H.out _).mono ?_;rintro e w2 ⟨rfl,hb⟩;obtain⟨hc,hf⟩:=bcell hb;obtain⟨z0,z1,z2⟩:w.heap.size<w2.heap.size∧w.heap.size+1<w2.heap.size∧w.heap.size+1+1<w2.heap.size:=(by have hz_:=hb.size;(try simp at hz_);omega);have n_:Below w.heap.size w _:=below_seq (by repeat (first|exact HB|refine J8 ?_ (by dsimp only;omega) _|refine Jk ?_ (by have hs_:=HB.size;first|(simp;done)|(simp;omega)|omega) _|apply Jv)) hb;clear HB;have HB:=n_;clear n_))
   refine bodyPost_ret (v:=.tuple #[.agg #[.int .i64 0,.int .u64 0,.string ⟨#[]⟩],.int .i64 50]) (by simp[results,Tryz.results88,go_sem, *]) rfl ⟨rfl,?_⟩
   (repeat (first|exact HB|refine J8 ?_ (by dsimp only;omega) _|refine Jk ?_ (by have hs_:=HB.size;first|(simp;done)|(simp;omega)|omega) _|apply Jv))
  ·obtain⟨hv,he⟩:=decV_ok hd
   rw[hv,he,hz,ht]
   clear hv he hd hz ht
   go_enter Tryz.func88,Tryz.ntmps88
   go_wp2_with (first
    |(go_at_call 111;refine(signed_is _ _ HS.out _).mono ?_;rintro e w' ⟨rfl,rfl⟩)
    |(go_at_call 126;refine(Sign_is _ _ g0 g1 _ HZ.out _).mono ?_;rintro e w' ⟨rfl,rfl⟩)
    |(go_at_call 86;refine(Get_all A c l _ ((hA0 _).below hb) hl).mono ?_;rw[HG.out];rintro e w3 ⟨rfl,hb3⟩;have hb:=hb3;obtain⟨hc,hf⟩:=bcell hb;obtain⟨x0,x1,x2⟩:w.heap.size<w3.heap.size∧w.heap.size+1<w3.heap.size∧w.heap.size+1+1<w3.heap.size:=(by have hz_:=hb.size;(try simp at hz_);omega);have n_:Below w.heap.size w _:=below_seq (by repeat (first|exact HB|refine J8 ?_ (by dsimp only;omega) _|refine Jk ?_ (by have hs_:=HB.size;first|(simp;done)|(simp;omega)|omega) _|apply Jv)) hb;clear HB;have HB:=n_;clear n_)
    |(go_at_call 89;refine(Long_eq _ _ _ _ H2.out.symm _).mono ?_;rintro e w1 ⟨rfl,hb⟩;obtain⟨hc,hf⟩:=bcell hb;obtain⟨z0,z1,z2⟩:w.heap.size<w1.heap.size∧w.heap.size+1<w1.heap.size∧w.heap.size+1+1<w1.heap.size:=(by have hz_:=hb.size;(try simp at hz_);omega);have n_:Below w.heap.size w _:=below_seq (by repeat (first|exact HB|refine J8 ?_ (by dsimp only;omega) _|refine Jk ?_ (by have hs_:=HB.size;first|(simp;done)|(simp;omega)|omega) _|apply Jv)) hb;clear HB;have HB:=n_;clear n_)
    |(go_at_call 95;refine(Right_is _ _ _ _ _ _ d0 d1 _ H.out _).mono ?_;rintro e w2 ⟨rfl,hb⟩;obtain⟨hc,hf⟩:=bcell hb;obtain⟨z0,z1,z2⟩:w.heap.size<w2.heap.size∧w.heap.size+1<w2.heap.size∧w.heap.size+1+1<w2.heap.size:=(by have hz_:=hb.size;(try simp at hz_);omega);have n_:Below w.heap.size w _:=below_seq (by repeat (first|exact HB|refine J8 ?_ (by dsimp only;omega) _|refine Jk ?_ (by have hs_:=HB.size;first|(simp;done)|(simp;omega)|omega) _|apply Jv)) hb;clear HB;have HB:=n_;clear n_))
   refine bodyPost_ret (v:=.tuple #[.agg #[.int .i64 k,.int .u64 z,.string ⟨#[]⟩],.int .i64 0]) (by simp[results,Tryz.results88,go_sem, *]) rfl ⟨rfl,?_⟩
   (repeat (first|exact HB|refine J8 ?_ (by dsimp only;omega) _|refine Jk ?_ (by have hs_:=HB.size;first|(simp;done)|(simp;omega)|omega) _|apply Jv))
theorem Decode_ne (A:Option Addr) (c:Nat) (l:List UInt8) (s:ByteArray) (k long:Int) (hk:¬k=12) (hlen:¬(l.length:Int)=longZ k long) (w:World) (hl:l.length≤9223372036854775807):
 Calls Tryz.prog 88 #[.slice A l.length c,.agg #[.string s,.int .i64 k,.int .i64 long]] w fun e w'=>e=.returned (.tuple #[decV l k long,.int .i64 (decE l k long)])∧Below w.heap.size w w':=by
 have hk':(k == 12)=false:=by simpa using hk
 have hd:decB l k long=false:=by simp[decB,hlen]
 have HB:Below w.heap.size w ((w.alloc (.cells #[.string s,.int .i64 k,.int .i64 long] 68)).alloc (.cells #[.int .i64 0,.int .u64 0,.string ⟨#[]⟩] 71)):=(below_new _).alloc (by simp) _
 obtain⟨hv,he⟩:=decV_no hd
 rw[hv,he]
 obtain⟨sg,hsg⟩:∃b,btw 5 k 8=b:=⟨_,rfl⟩
 obtain⟨lz,hlz⟩:∃z,longZ k long=z:=⟨_,rfl⟩
 rw[hlz] at hlen
 have hne:((l.length:Int) != lz)=true:=by simpa using hlen
 have heq:((l.length:Int) == lz)=false:=by simpa using hlen
 have H2:=J0 hlz
 have HS:=J0 hsg
 have hss:=setCell_twice
 clear hv he hd hlen hlz hsg
 cases sg
 all_goals
  go_enter Tryz.func88,Tryz.ntmps88
  go_wp2_with (first
   |(go_at_call 111;refine(signed_is _ _ HS.out _).mono ?_;rintro e w' ⟨rfl,rfl⟩)
   |(go_at_call 126;refine(Sign_calls _ _ (by omega) (by omega) _).mono ?_;rintro e w' ⟨rfl,rfl⟩)
   |(go_at_call 89;refine(Long_eq _ _ _ _ H2.out _).mono ?_;rintro e w1 ⟨rfl,hb⟩;obtain⟨hc,hf⟩:=bcell hb;obtain⟨z0,z1,z2⟩:w.heap.size<w1.heap.size∧w.heap.size+1<w1.heap.size∧w.heap.size+1+1<w1.heap.size:=(by have hz_:=hb.size;(try simp at hz_);omega);have n_:Below w.heap.size w _:=below_seq (by repeat (first|exact HB|refine J8 ?_ (by dsimp only;omega) _|refine Jk ?_ (by have hs_:=HB.size;first|(simp;done)|(simp;omega)|omega) _|apply Jv)) hb;clear HB;have HB:=n_;clear n_))
  refine bodyPost_ret (v:=.tuple #[.agg #[.int .i64 0,.int .u64 0,.string (⟨#[]⟩:ByteArray)],.int .i64 50]) (by simp[results,Tryz.results88,go_sem, *]) rfl ⟨rfl,?_⟩
  (repeat (first|exact HB|refine J8 ?_ (by dsimp only;omega) _|refine Jk ?_ (by have hs_:=HB.size;first|(simp;done)|(simp;omega)|omega) _|apply Jv))
theorem Decode_calls (A:Option Addr) (c:Nat) (l:List UInt8) (s:ByteArray) (k long:Int) (w:World) (hA:Rd w A (bytesV l)) (hl:l.length≤9223372036854775807):
 Calls Tryz.prog 88 #[.slice A l.length c,.agg #[.string s,.int .i64 k,.int .i64 long]] w fun e w'=>e=.returned (.tuple #[decV l k long,.int .i64 (decE l k long)])∧Below w.heap.size w w':=by
 by_cases hk:k=12
 ·subst hk;exact Decode_12 A c l s long w hA hl
 ·by_cases hlen:(l.length:Int)=longZ k long
  ·exact Decode_eq A c l s k long hk hlen w hA hl
  ·exact Decode_ne A c l s k long hk hlen w hl
end
end Go.Proofs.YteembinfgbapgaaGreat
