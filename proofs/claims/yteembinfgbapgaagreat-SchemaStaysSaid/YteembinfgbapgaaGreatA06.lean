/- Merged out of: Kk Kl Km Ge. -/
import Derived.Test.YteembinfgbapgaaGreatA05
import Derived.Test.YteembinfgbapgaaGreatA02
set_option linter.unusedSimpArgs false
set_option linter.unusedVariables false
set_option maxRecDepth 100000
set_option maxHeartbeats 8000000
namespace Go.Proofs.YteembinfgbapgaaGreat
section
open Go.RowKit
theorem size_pos (k:Int):0<sizeZ k↔0<k∧k<12:=by
 unfold sizeZ
 split <;> (try split) <;> (try split) <;> (try split) <;> omega
theorem rMay_calls (s:ByteArray) (k l:Int) (w:World):Calls Tryz.prog 113 #[.agg #[.string s,.int .i64 k,.int .i64 l]] w fun e w'=>e=.returned (.bool (mayB k l))∧Below w.heap.size w w':=by
 have hp:=Lib.hid (size_pos k)
 go_enter Tryz.func113,Tryz.ntmps113
 go_wp2
 all_goals
  go_ret
  refine⟨ret_bool ?_,below_new _⟩
  have:=hp.out
  try simp only[beq_iff_eq,beq_eq_false_iff_ne,ne_eq] at *
  rw[Bool.eq_iff_iff]
  simp only[mayB,btw,decide_eq_true_eq,decide_eq_false_iff_not,Bool.and_eq_true,Bool.decide_and] at *
  grind
theorem rMay_is (s:ByteArray) (k l:Int) (r:Bool) (h:mayB k l=r) (w:World):Calls Tryz.prog 113 #[.agg #[.string s,.int .i64 k,.int .i64 l]] w fun e w'=>e=.returned (.bool r)∧Below w.heap.size w w':=h▸rMay_calls s k l w
theorem rLong_calls (s:ByteArray) (k l:Int) (w:World):Calls Tryz.prog 92 #[.agg #[.string s,.int .i64 k,.int .i64 l]] w fun e w'=>e=.returned (.int .i64 (longZ k l))∧Below w.heap.size w w':=by
 have HB:=Below.refl w.heap.size w
 obtain⟨r,hr⟩:∃r,mayB k l=r:=⟨_,rfl⟩
 have H:=Lib.hid hr
 clear hr
 cases r
 ·go_enter Tryz.func92,Tryz.ntmps92
  go_wp2_with (first|(go_at_call 113;refine(rMay_is _ _ _ _ H.out _).mono ?_;rintro e w1 ⟨rfl,hb⟩;obtain⟨hc,hf⟩:=bcell hb;have z0:w.heap.size<w1.heap.size:=(by have hz_:=hb.size;(try simp at hz_);omega);have n_:Below w.heap.size w _:=below_seq (by repeat (first|exact HB|refine Below.setCell ?_ (by dsimp only;omega) _|refine Below.alloc ?_ (by have hs_:=HB.size;first|(simp;done)|(simp;omega)|omega) _|apply Below.drew)) hb;clear HB;have HB:=n_;clear n_))
  go_ret
  exact⟨ret_int (by rw[longZ,H.out];rfl),HB⟩
 ·have hkk:k=12∨¬k=12:=by omega
  rcases hkk with rfl|hk
  ·go_enter Tryz.func92,Tryz.ntmps92
   go_wp2_with (first|(go_at_call 129;refine(rSize_calls _ _).mono ?_;rintro e w' ⟨rfl,rfl⟩)|(go_at_call 113;refine(rMay_is _ _ _ _ H.out _).mono ?_;rintro e w1 ⟨rfl,hb⟩;obtain⟨hc,hf⟩:=bcell hb;have z0:w.heap.size<w1.heap.size:=(by have hz_:=hb.size;(try simp at hz_);omega);have n_:Below w.heap.size w _:=below_seq (by repeat (first|exact HB|refine Below.setCell ?_ (by dsimp only;omega) _|refine Below.alloc ?_ (by have hs_:=HB.size;first|(simp;done)|(simp;omega)|omega) _|apply Below.drew)) hb;clear HB;have HB:=n_;clear n_))
   go_ret
   exact⟨ret_int (by rw[longZ,H.out];rfl),HB⟩
  ·have hk':(k == 12)=false:=by simpa using hk
   go_enter Tryz.func92,Tryz.ntmps92
   go_wp2_with (first|(go_at_call 129;refine(rSize_calls _ _).mono ?_;rintro e w' ⟨rfl,rfl⟩)|(go_at_call 113;refine(rMay_is _ _ _ _ H.out _).mono ?_;rintro e w1 ⟨rfl,hb⟩;obtain⟨hc,hf⟩:=bcell hb;have z0:w.heap.size<w1.heap.size:=(by have hz_:=hb.size;(try simp at hz_);omega);have n_:Below w.heap.size w _:=below_seq (by repeat (first|exact HB|refine Below.setCell ?_ (by dsimp only;omega) _|refine Below.alloc ?_ (by have hs_:=HB.size;first|(simp;done)|(simp;omega)|omega) _|apply Below.drew)) hb;clear HB;have HB:=n_;clear n_))
   go_ret
   exact⟨ret_int (by rw[longZ,H.out,if_pos rfl,if_neg hk]),HB⟩
theorem rLong_is (s:ByteArray) (k l:Int) (r:Int) (h:longZ k l=r) (w:World):Calls Tryz.prog 92 #[.agg #[.string s,.int .i64 k,.int .i64 l]] w fun e w'=>e=.returned (.int .i64 r)∧Below w.heap.size w w':=h▸rLong_calls s k l w
theorem rFits_is (n width:Int) (s:Bool) (h0:0≤n) (h1:n<18446744073709551616) (r:Bool) (h:fitsB n width s=r) (w:World):Calls Tryz.prog 160 #[.int .u64 n,.int .i64 width,.bool s] w fun e w'=>e=.returned (.bool r)∧w=w':=h▸rFits_calls n width s h0 h1 w
theorem rRight_calls5 (vk bits:Int) (tx s:ByteArray) (k l:Int) (h0:0≤bits) (h1:bits<18446744073709551616) (w:World):
 Calls Tryz.prog 115 #[.agg #[.int .i64 vk,.int .u64 bits,.string tx],.agg #[.string s,.int .i64 k,.int .i64 l]] w fun e w'=>e=.returned (.bool (rightB vk bits tx k l))∧Below w.heap.size w w':=by
 have HB:=below_new (w:=w) (.cells #[.int .i64 vk,.int .u64 bits,.string tx] 71)
 obtain⟨r,hr⟩:∃r,mayB k l=r:=⟨_,rfl⟩
 have H:=Lib.hid hr
 clear hr
 cases r
 ·go_enter Tryz.func115,Tryz.ntmps115
  go_wp2_with (first|(go_at_call 113;refine(rMay_is _ _ _ _ H.out _).mono ?_;rintro e w1 ⟨rfl,hb⟩;obtain⟨hc,hf⟩:=bcell hb;obtain⟨z0,z1⟩:w.heap.size<w1.heap.size∧w.heap.size+1<w1.heap.size:=(by have hz_:=hb.size;(try simp at hz_);omega);have n_:Below w.heap.size w _:=below_seq (by repeat (first|exact HB|refine Below.setCell ?_ (by dsimp only;omega) _|refine Below.alloc ?_ (by have hs_:=HB.size;first|(simp;done)|(simp;omega)|omega) _|apply Below.drew)) hb;clear HB;have HB:=n_;clear n_))
  go_ret
  exact⟨ret_bool (by simp[rightB,H.out]),HB⟩
 ·obtain⟨rk,hrk⟩:∃b,decide (9<k)=b:=⟨_,rfl⟩
  have hk9:(rk=true↔9<k):=by rw[←hrk];simp
  by_cases hv:vk=k
  ·subst hv
   by_cases hk:vk=12
   ·subst hk
    clear hrk hk9
    go_enter Tryz.func115,Tryz.ntmps115
    go_wp2_with (first|(go_at_call 113;refine(rMay_is _ _ _ _ H.out _).mono ?_;rintro e w1 ⟨rfl,hb⟩;obtain⟨hc,hf⟩:=bcell hb;obtain⟨z0,z1⟩:w.heap.size<w1.heap.size∧w.heap.size+1<w1.heap.size:=(by have hz_:=hb.size;(try simp at hz_);omega);have n_:Below w.heap.size w _:=below_seq (by repeat (first|exact HB|refine Below.setCell ?_ (by dsimp only;omega) _|refine Below.alloc ?_ (by have hs_:=HB.size;first|(simp;done)|(simp;omega)|omega) _|apply Below.drew)) hb;clear HB;have HB:=n_;clear n_))
    all_goals
     go_ret
     refine⟨ret_bool ?_,HB⟩
     rw[rightB,H.out]
     simp[fitB, *]
     try grind
   ·have e12:(vk == 12)=false:=by simpa using hk
    by_cases ht:tx.toList=[]
    ·have ht1:(!tx.toList.isEmpty)=false:=by simp[ht]
     have hsz:(tx.size:Int)=0:=by
      rw[←bl_length,bl,←ByteArray.toList_eq,ht];rfl
     have HZ:=Lib.hid hsz
     clear hsz ht
     by_cases hk9':vk=9
     ·subst hk9'
      clear hrk hk9
      go_enter Tryz.func115,Tryz.ntmps115
      go_wp2_with (first|(go_at_call 113;refine(rMay_is _ _ _ _ H.out _).mono ?_;rintro e w1 ⟨rfl,hb⟩;obtain⟨hc,hf⟩:=bcell hb;obtain⟨z0,z1⟩:w.heap.size<w1.heap.size∧w.heap.size+1<w1.heap.size:=(by have hz_:=hb.size;(try simp at hz_);omega);have n_:Below w.heap.size w _:=below_seq (by repeat (first|exact HB|refine Below.setCell ?_ (by dsimp only;omega) _|refine Below.alloc ?_ (by have hs_:=HB.size;first|(simp;done)|(simp;omega)|omega) _|apply Below.drew)) hb;clear HB;have HB:=n_;clear n_))
      go_ret
      refine⟨ret_bool ?_,HB⟩
      rw[rightB,H.out,HZ.out,Bool.eq_iff_iff]
      simp[fitB]
      omega
     ·have e9:(vk == 9)=false:=by simpa using hk9'
      obtain⟨q,hq⟩:∃q,fitsB bits (longZ vk l) (decide (4<vk))=q:=⟨_,rfl⟩
      have hpos:=(size_pos vk).1 (mayB_of H.out hk).2
      have hfit:fitB bits vk l=(rk || q):=by
       rw[fitB,if_neg hk,if_neg hk9']
       by_cases h9:9<vk
       ·have:rk=true:=hk9.2 h9
        rw[this];simp;omega
       ·have h8:rk=false:=by cases hh:rk;rfl;exact absurd (hk9.1 hh) h9
        have hb:btw 5 vk 8=decide (4<vk):=by rw[Bool.eq_iff_iff];simp[btw];omega
        rw[h8,hb,hq,decide_eq_false (show ¬vk=10 by omega),decide_eq_false (show ¬vk=11 by omega)];simp
      have HF:=Lib.hid hfit
      have HQ:=Lib.hid hq
      have HK:=Lib.hid hk
      clear hfit hq hpos hk9 hk hk9'
      cases rk
      all_goals
       go_enter Tryz.func115,Tryz.ntmps115
       go_wp2_with (first|(go_at_call 113;refine(rMay_is _ _ _ _ H.out _).mono ?_;rintro e w1 ⟨rfl,hb⟩;obtain⟨hc,hf⟩:=bcell hb;obtain⟨z0,z1⟩:w.heap.size<w1.heap.size∧w.heap.size+1<w1.heap.size:=(by have hz_:=hb.size;(try simp at hz_);omega);have n_:Below w.heap.size w _:=below_seq (by repeat (first|exact HB|refine Below.setCell ?_ (by dsimp only;omega) _|refine Below.alloc ?_ (by have hs_:=HB.size;first|(simp;done)|(simp;omega)|omega) _|apply Below.drew)) hb;clear HB;have HB:=n_;clear n_))
       have g1:FBox w1 (w.heap.size+1) s vk l:=⟨by rw[hc _ _ (by simp)];simp[go_sem],by rw[hc _ _ (by simp)];simp[go_sem],by rw[hc _ _ (by simp)];simp[go_sem]⟩
       have g2:VBox w1 w.heap.size vk bits tx:=⟨by rw[hc _ _ (by simp;omega)];simp[go_sem],by rw[hc _ _ (by simp;omega)];simp[go_sem],by rw[hc _ _ (by simp;omega)];simp[go_sem]⟩
       refine RW.start (fun w'=>Below w.heap.size w w'∧FBox w' (w.heap.size+1) s vk l∧VBox w' w.heap.size vk bits tx) (by kernel_rfl) (by kernel_rfl) ⟨HB.drew,g1,g2⟩ ?_
       clear g1 g2 hc hf hb HB z0 z1
       repeat (first
        |(refine' RW.val (by rfl) ?_ ?_;rotate_left;(focus (intro w' hS;obtain⟨HB,⟨c0,c1,c2⟩,⟨d0,d1,d2⟩⟩:=hS;go_simp;rfl));simp only[Act.put,List.setIfInBounds_toArray,List.set_cons_zero,List.set_cons_succ])
        |(refine RW.off (by rfl) ?_;simp only[Act.put,List.setIfInBounds_toArray,List.set_cons_zero,List.set_cons_succ])
        |(refine' RW.call (by rfl) ?_ ?_ ?_
          rotate_left 3
          (focus (intro w' hS;obtain⟨HB,⟨c0,c1,c2⟩,⟨d0,d1,d2⟩⟩:=hS;go_simp;exact⟨rfl,rfl⟩))
          (focus
            intro w' hS
            obtain⟨HB,⟨c0,c1,c2⟩,⟨d0,d1,d2⟩⟩:=hS
            first
             |(refine(rLong_calls _ _ _ _).mono ?_;rintro e w1 ⟨rfl,hb⟩;exact⟨rfl,⟨(below_seq HB hb),⟨(cell_below (B:=0) hb c0),(cell_below (B:=0) hb c1),(cell_below (B:=0) hb c2)⟩,⟨(cell_below (B:=0) hb d0),(cell_below (B:=0) hb d1),(cell_below (B:=0) hb d2)⟩⟩⟩)
             |(refine(rFits_is _ _ _ h0 h1 _ HQ.out _).mono ?_;rintro e w1 ⟨rfl,rfl⟩;exact⟨rfl,⟨HB,⟨c0,c1,c2⟩,⟨d0,d1,d2⟩⟩⟩))
          simp only[Act.put,List.setIfInBounds_toArray,List.set_cons_zero,List.set_cons_succ]))
       refine RW.done (fun w' hS=>?_)
       obtain⟨HB,⟨c0,c1,c2⟩,⟨d0,d1,d2⟩⟩:=hS
       go_wp2
       go_ret
       exact⟨ret_bool (by rw[rightB,H.out,HZ.out,HF.out,if_neg HK.out];simp),HB⟩
    ·have ht1:(!tx.toList.isEmpty)=true:=by simpa using ht
     have hsz:¬(tx.size:Int)=0:=by
      intro h
      apply ht
      rw[ByteArray.toList_eq]
      exact List.eq_nil_of_length_eq_zero (by have:=bl_length tx;rw[bl] at this;omega)
     have HZ:=Lib.hid hsz
     clear hsz ht hrk hk9
     go_enter Tryz.func115,Tryz.ntmps115
     go_wp2_with (first|(go_at_call 113;refine(rMay_is _ _ _ _ H.out _).mono ?_;rintro e w1 ⟨rfl,hb⟩;obtain⟨hc,hf⟩:=bcell hb;obtain⟨z0,z1⟩:w.heap.size<w1.heap.size∧w.heap.size+1<w1.heap.size:=(by have hz_:=hb.size;(try simp at hz_);omega);have n_:Below w.heap.size w _:=below_seq (by repeat (first|exact HB|refine Below.setCell ?_ (by dsimp only;omega) _|refine Below.alloc ?_ (by have hs_:=HB.size;first|(simp;done)|(simp;omega)|omega) _|apply Below.drew)) hb;clear HB;have HB:=n_;clear n_))
     go_ret
     refine⟨ret_bool ?_,HB⟩
     rw[rightB,H.out,if_neg hk,decide_eq_false HZ.out]
     simp
  ·have hv':(vk != k)=true:=by simpa using hv
   clear hrk hk9
   go_enter Tryz.func115,Tryz.ntmps115
   go_wp2_with (first|(go_at_call 113;refine(rMay_is _ _ _ _ H.out _).mono ?_;rintro e w1 ⟨rfl,hb⟩;obtain⟨hc,hf⟩:=bcell hb;obtain⟨z0,z1⟩:w.heap.size<w1.heap.size∧w.heap.size+1<w1.heap.size:=(by have hz_:=hb.size;(try simp at hz_);omega);have n_:Below w.heap.size w _:=below_seq (by repeat (first|exact HB|refine Below.setCell ?_ (by dsimp only;omega) _|refine Below.alloc ?_ (by have hs_:=HB.size;first|(simp;done)|(simp;omega)|omega) _|apply Below.drew)) hb;clear HB;have HB:=n_;clear n_))
   go_ret
   refine⟨ret_bool ?_,HB⟩
   rw[rightB,H.out]
   simp[hv]
theorem FBox.far {w:World} {b:Nat} {s:ByteArray} {k l:Int} (h:FBox w b s k l) {p:Addr} (hp:p.block≠b) (v:Value):FBox (w.setCell p v) b s k l:=
 ⟨(World.cell?_setCell_far w p _ v hp).trans h.1,(World.cell?_setCell_far w p _ v hp).trans h.2.1,(World.cell?_setCell_far w p _ v hp).trans h.2.2⟩
theorem VBox.far {w:World} {b:Nat} {k x:Int} {t:ByteArray} (h:VBox w b k x t) {p:Addr} (hp:p.block≠b) (v:Value):VBox (w.setCell p v) b k x t:=
 ⟨(World.cell?_setCell_far w p _ v hp).trans h.1,(World.cell?_setCell_far w p _ v hp).trans h.2.1,(World.cell?_setCell_far w p _ v hp).trans h.2.2⟩
theorem VBox.text {w:World} {b:Nat} {k x:Int} {t:ByteArray} (h:VBox w b k x t) (t':ByteArray):VBox (w.setCell ⟨b,2,none⟩ (.string t')) b k x t':=
 ⟨(World.cell?_setCell_other w _ _ _ (by simp)).trans h.1,(World.cell?_setCell_other w _ _ _ (by simp)).trans h.2.1,World.cell?_setCell_same w _ _ h.2.2⟩
theorem rZero_none (s:ByteArray) (k l:Int) (h:mayB k l=false) (w:World):
 Calls Tryz.prog 117 #[.agg #[.string s,.int .i64 k,.int .i64 l]] w fun e w'=>e=.returned (.agg #[.int .i64 0,.int .u64 0,.string ⟨#[]⟩])∧Below w.heap.size w w':=by
 have HB:=Below.refl w.heap.size w
 have H:=Lib.hid h
 clear h
 go_enter Tryz.func117,Tryz.ntmps117
 go_wp2_with (first|(go_at_call 113;refine(rMay_is _ _ _ _ H.out _).mono ?_;rintro e w1 ⟨rfl,hb⟩;obtain⟨hc,hf⟩:=bcell hb;obtain⟨z0,z1⟩:w.heap.size<w1.heap.size∧w.heap.size+1<w1.heap.size:=(by have hz_:=hb.size;(try simp at hz_);omega);have n_:Below w.heap.size w _:=below_seq (by repeat (first|exact HB|refine Below.setCell ?_ (by dsimp only;omega) _|refine Below.alloc ?_ (by have hs_:=HB.size;first|(simp;done)|(simp;omega)|omega) _|apply Below.drew)) hb;clear HB;have HB:=n_;clear n_))
 refine bodyPost_ret (v:=.agg #[.int .i64 0,.int .u64 0,.string ⟨#[]⟩]) (by simp[results,Tryz.results117,go_sem, *]) rfl ⟨rfl,?_⟩
 (repeat (first|exact HB|refine Below.setCell ?_ (by dsimp only;omega) _|refine Below.alloc ?_ (by have hs_:=HB.size;first|(simp;done)|(simp;omega)|omega) _|apply Below.drew))
theorem rZero_some (s:ByteArray) (k:Int) (n:Nat) (h:mayB k n=true) (hn:n≤64) (w:World):
 Calls Tryz.prog 117 #[.agg #[.string s,.int .i64 k,.int .i64 n]] w fun e w'=>e=.returned (.agg #[.int .i64 k,.int .u64 0,.string (strL (List.replicate n 0))])∧Below w.heap.size w w':=by
 have HB:=Below.refl w.heap.size w
 have H:=Lib.hid h
 clear h
 go_enter Tryz.func117,Tryz.ntmps117
 go_wp2_with (first|(go_at_call 113;refine(rMay_is _ _ _ _ H.out _).mono ?_;rintro e w1 ⟨rfl,hb⟩;obtain⟨hc,hf⟩:=bcell hb;obtain⟨z0,z1⟩:w.heap.size<w1.heap.size∧w.heap.size+1<w1.heap.size:=(by have hz_:=hb.size;(try simp at hz_);omega);have n_:Below w.heap.size w _:=below_seq (by repeat (first|exact HB|refine Below.setCell ?_ (by dsimp only;omega) _|refine Below.alloc ?_ (by have hs_:=HB.size;first|(simp;done)|(simp;omega)|omega) _|apply Below.drew)) hb;clear HB;have HB:=n_;clear n_))
 obtain⟨q,hq⟩:∃q,w1.heap.size=q:=⟨_,rfl⟩
 obtain⟨W,hW⟩:∃W:World,w1.alloc (.cells #[.int .i64 k,.int .u64 0,.string ⟨#[]⟩] 71)=W:=⟨_,rfl⟩
 have g1:FBox W w.heap.size s k n:=by
  rw[←hW];refine FBox.alloc ?_ _
  exact⟨by rw[hc _ _ (by simp;omega)];simp[go_sem],by rw[hc _ _ (by simp;omega)];simp[go_sem],by rw[hc _ _ (by simp;omega)];simp[go_sem]⟩
 have g2:VBox W (w.heap.size+1) 0 0 ⟨#[]⟩:=by
  rw[←hW];refine VBox.alloc ?_ _
  exact⟨by rw[hc _ _ (by simp)];simp[go_sem],by rw[hc _ _ (by simp)];simp[go_sem],by rw[hc _ _ (by simp)];simp[go_sem]⟩
 have g3:VBox W q k 0 (strL (List.replicate 0 0)):=by rw[←hW,←hq];exact VBox.new _ _ _ _
 have f2:∀o,W.frozen? ⟨w.heap.size+1,o,none⟩=false:=by
  intro o
  rw[←hW,World.frozen?_alloc_past _ _ _ z1,hf _ _ (by simp)]
  simp[go_sem]
 have f3:∀o,W.frozen? ⟨q,o,none⟩=false:=by intro o;rw[←hW,←hq];simp[go_sem]
 have hB:Below w.heap.size w W:=hW▸HB.alloc (by omega) _
 have hs1:q<W.heap.size:=by rw[←hW];simp;omega
 have hq1:w.heap.size+1<q:=by omega
 rw[hW,hq]
 clear hW hc hf hb HB
 go_loopw [4] (fun i wr=>∃j:Nat,j≤n∧i=.int .i64 j∧FBox wr w.heap.size s k n∧VBox wr (w.heap.size+1) 0 0 ⟨#[]⟩∧VBox wr q k 0 (strL (List.replicate j 0))∧(∀o,wr.frozen? ⟨w.heap.size+1,o,none⟩=false)∧(∀o,wr.frozen? ⟨q,o,none⟩=false)∧Below w.heap.size w wr∧q<wr.heap.size) (fun i _=>n - (intOf i).toNat)
 case atStart=>exact⟨0,by omega,rfl,g1,g2,g3,f2,f3,hB,hs1⟩
 case round=>
  clear g1 g2 g3 f2 f3 hB hs1
  obtain⟨j,hj,rfl,⟨c0,c1,c2⟩,⟨r0,r1,r2⟩,⟨d0,d1,d2⟩,f2,f3,HB,hs1⟩:=hrel
  by_cases hlt:j<n
  ·have hz:¬9223372036854775807<(strL (List.replicate j 0)).size+1:=by rw[strL_size,List.length_replicate];omega
   have hap:strL (List.replicate j 0)++ ⟨#[0]⟩=strL (List.replicate (j+1) 0):=by
    rw[List.replicate_succ',←strL_append];rfl
   have HA:=Lib.hid hap
   clear hap
   go_wp2
   go_roundw
   case rel=>
    have n1:q≠w.heap.size:=by omega
    have n2:q≠w.heap.size+1:=by omega
    rw[HA.out]
    refine⟨j+1,by omega,by go_num,FBox.far ⟨c0,c1,c2⟩ n1 _,VBox.far ⟨r0,r1,r2⟩ n2 _,VBox.text ⟨d0,d1,d2⟩ _,?_,?_,HB.setCell (by dsimp only;omega) _,by simpa using hs1⟩
    ·intro o;rw[World.frozen?_setCell];exact f2 o
    ·intro o;rw[World.frozen?_setCell];exact f3 o
   case measure=>simp[intOf];omega
  ·obtain rfl:j=n:=by omega
   go_wp2
   refine bodyPost_ret (v:=.agg #[.int .i64 k,.int .u64 0,.string (strL (List.replicate j 0))]) (by simp[results,Tryz.results117,go_sem, *]) rfl ⟨rfl,?_⟩
   (repeat (first|exact HB|refine Below.setCell ?_ (by dsimp only;omega) _|refine Below.alloc ?_ (by have hs_:=HB.size;first|(simp;done)|(simp;omega)|omega) _|apply Below.drew))
theorem rZero_calls (s:ByteArray) (k l:Int) (w:World):
 Calls Tryz.prog 117 #[.agg #[.string s,.int .i64 k,.int .i64 l]] w fun e w'=>e=.returned (zeroV k l)∧Below w.heap.size w w':=by
 by_cases h:mayB k l=true
 ·rw[zeroV,if_pos h]
  by_cases hk:k=12
  ·subst hk
   have:=btw_iff.1 (mayB_12▸h)
   obtain⟨n,rfl⟩:∃n:Nat,l=n:=⟨l.toNat,by omega⟩
   rw[zeroL,if_pos rfl]
   exact rZero_some s 12 n h (by omega) w
  ·rw[zeroL,if_neg hk]
   obtain rfl:=(mayB_of h hk).1
   exact rZero_some s k 0 h (by omega) w
 ·rw[zeroV,if_neg h]
  exact rZero_none s k l (by simpa using h) w
def putL (n:Int) (width:Nat):List UInt8:=if fitsB n width false=true then leL n width else[]
theorem tz_top {n:Nat} (h:widthB n=true):tz n=topZ n - 1:=by
 have:=width_cases h
 rcases(by omega:n=1∨n=2∨n=4∨n=8) with rfl|rfl|rfl|rfl <;> rfl
theorem rPut_calls (n:Int) (width:Nat) (hw:width≤8) (h0:0≤n) (h1:n<18446744073709551616) (w:World):Calls Tryz.prog 83 #[.int .i64 width,.int .u64 n] w fun e w'=>e=.returned (.string (strL (putL n width)))∧Below w.heap.size w w':=by
 by_cases h:fitsB n width false=true
 ·rw[putL,if_pos h]
  simp only[fitsB,Bool.and_eq_true] at h
  exact rPut_some n width hw h.1 h0 h1 (by rw[tz_top h.1];have:=h.2;simp at this;omega) w
 ·rw[putL,if_neg h]
  refine rPut_none n width hw h0 h1 (fun hb=>?_) w
  rw[tz_top hb]
  simp[fitsB,hb] at h;omega
theorem rPut_is (n:Int) (h0:0≤n) (h1:n<18446744073709551616) (w:World):Calls Tryz.prog 83 #[.int .i64 8,.int .u64 n] w fun e w'=>e=.returned (.string (strL (leL n 8)))∧Below w.heap.size w w':=by
 have:=rPut_calls n 8 (by omega) h0 h1 w
 rwa [putL,if_pos (by simp[fitsB,widthB,topZ];omega)] at this
theorem rRight_is5 (vk bits:Int) (tx s:ByteArray) (k l:Int) (h0:0≤bits) (h1:bits<18446744073709551616) (r:Bool) (h:rightB vk bits tx k l=r) (w:World):
 Calls Tryz.prog 115 #[.agg #[.int .i64 vk,.int .u64 bits,.string tx],.agg #[.string s,.int .i64 k,.int .i64 l]] w fun e w'=>e=.returned (.bool r)∧Below w.heap.size w w':=h▸rRight_calls5 vk bits tx s k l h0 h1 w
def encS (vk bits:Int) (tx:ByteArray) (k l:Int):ByteArray:=if rightB vk bits tx k l=true then strL (encL bits tx k l) else⟨#[]⟩
def encE (vk bits:Int) (tx:ByteArray) (k l:Int):Int:=if rightB vk bits tx k l=true then 0 else 50
theorem leL_take (n:Int) {j k:Nat} (h:j≤k):(leL n k).take j=leL n j:=by
 apply List.ext_getElem?
 intro i
 simp only[leL,List.getElem?_take,List.getElem?_map]
 by_cases hi:i<j
 ·simp[hi,show i<k by omega]
 ·simp[hi,List.getElem?_eq_none (show(List.range j).length≤i by simp;omega)]
theorem strL_extract (l:List UInt8) (n:Nat):(strL l).extract 0 n=strL (l.take n):=by
 apply ByteArray.ext;simp[strL]
theorem rEncode_calls (vk bits:Int) (tx s:ByteArray) (k l:Int) (h0:0≤bits) (h1:bits<18446744073709551616) (w:World):
 Calls Tryz.prog 85 #[.agg #[.int .i64 vk,.int .u64 bits,.string tx],.agg #[.string s,.int .i64 k,.int .i64 l]] w fun e w'=>e=.returned (.tuple #[.string (encS vk bits tx k l),.int .i64 (encE vk bits tx k l)])∧Below w.heap.size w w':=by
 have HB:=Below.refl w.heap.size w
 by_cases hr:rightB vk bits tx k l=true
 ·rw[encS,encE,if_pos hr,if_pos hr]
  have hm:=(right_may hr).1
  have H:=Lib.hid hr
  clear hr
  by_cases hk:k=12
  ·subst hk
   rw[encL,if_pos rfl,strL_bl]
   clear hm
   go_enter Tryz.func85,Tryz.ntmps85
   go_wp2_with (first|(go_at_call 115;refine(rRight_is5 _ _ _ _ _ _ h0 h1 _ H.out _).mono ?_;rintro e w1 ⟨rfl,hb⟩;obtain⟨hc,hf⟩:=bcell hb;obtain⟨z0,z1⟩:w.heap.size<w1.heap.size∧w.heap.size+1<w1.heap.size:=(by have hz_:=hb.size;(try simp at hz_);omega);have n_:Below w.heap.size w _:=below_seq (by repeat (first|exact HB|refine Below.setCell ?_ (by dsimp only;omega) _|refine Below.alloc ?_ (by have hs_:=HB.size;first|(simp;done)|(simp;omega)|omega) _|apply Below.drew)) hb;clear HB;have HB:=n_;clear n_))
   go_ret2
   exact⟨rfl,HB⟩
  ·have hlc:=long_cases hm hk
   have hk':(k == 12)=false:=by simpa using hk
   obtain⟨n,hn⟩:∃n:Nat,longZ k l=n:=⟨(longZ k l).toNat,by omega⟩
   have hn8:n≤8:=by omega
   rw[encL,if_neg hk,hn]
   have HN:=Lib.hid hn
   clear hn hlc hm
   go_enter Tryz.func85,Tryz.ntmps85
   go_wp2_with (first|(go_at_call 115;refine(rRight_is5 _ _ _ _ _ _ h0 h1 _ H.out _).mono ?_;rintro e w1 ⟨rfl,hb⟩;obtain⟨hc,hf⟩:=bcell hb;obtain⟨z0,z1⟩:w.heap.size<w1.heap.size∧w.heap.size+1<w1.heap.size:=(by have hz_:=hb.size;(try simp at hz_);omega);have n_:Below w.heap.size w _:=below_seq (by repeat (first|exact HB|refine Below.setCell ?_ (by dsimp only;omega) _|refine Below.alloc ?_ (by have hs_:=HB.size;first|(simp;done)|(simp;omega)|omega) _|apply Below.drew)) hb;clear HB;have HB:=n_;clear n_))
   have g1:FBox w1 (w.heap.size+1) s k l:=⟨by rw[hc _ _ (by simp)];simp[go_sem],by rw[hc _ _ (by simp)];simp[go_sem],by rw[hc _ _ (by simp)];simp[go_sem]⟩
   have g2:VBox w1 w.heap.size vk bits tx:=⟨by rw[hc _ _ (by simp;omega)];simp[go_sem],by rw[hc _ _ (by simp;omega)];simp[go_sem],by rw[hc _ _ (by simp;omega)];simp[go_sem]⟩
   have hsz:(strL (leL bits 8)).size=8:=by rw[strL_size,leL_length]
   have hn8':(n:Int)≤8:=by omega
   refine RW.start (fun w'=>Below w.heap.size w w'∧FBox w' (w.heap.size+1) s k l∧VBox w' w.heap.size vk bits tx) (by kernel_rfl) (by kernel_rfl) ⟨HB.drew,g1,g2⟩ ?_
   clear g1 g2 hc hf hb HB z0 z1
   repeat (first
    |(refine' RW.val (by rfl) ?_ ?_;rotate_left;(focus (intro w' hS;obtain⟨HB,⟨c0,c1,c2⟩,⟨d0,d1,d2⟩⟩:=hS;go_simp;rfl));simp only[Act.put,List.setIfInBounds_toArray,List.set_cons_zero,List.set_cons_succ])
    |(refine RW.off (by rfl) ?_;simp only[Act.put,List.setIfInBounds_toArray,List.set_cons_zero,List.set_cons_succ])
    |(refine' RW.call (by rfl) ?_ ?_ ?_
      rotate_left 3
      (focus (intro w' hS;obtain⟨HB,⟨c0,c1,c2⟩,⟨d0,d1,d2⟩⟩:=hS;go_simp;exact⟨rfl,rfl⟩))
      (focus
        intro w' hS
        obtain⟨HB,⟨c0,c1,c2⟩,⟨d0,d1,d2⟩⟩:=hS
        first
         |(refine(rLong_is _ _ _ _ HN.out _).mono ?_;rintro e w1 ⟨rfl,hb⟩;exact⟨rfl,⟨(below_seq HB hb),⟨(cell_below (B:=0) hb c0),(cell_below (B:=0) hb c1),(cell_below (B:=0) hb c2)⟩,⟨(cell_below (B:=0) hb d0),(cell_below (B:=0) hb d1),(cell_below (B:=0) hb d2)⟩⟩⟩)
         |(refine(rPut_is _ h0 h1 _).mono ?_;rintro e w1 ⟨rfl,hb⟩;exact⟨rfl,⟨(below_seq HB hb),⟨(cell_below (B:=0) hb c0),(cell_below (B:=0) hb c1),(cell_below (B:=0) hb c2)⟩,⟨(cell_below (B:=0) hb d0),(cell_below (B:=0) hb d1),(cell_below (B:=0) hb d2)⟩⟩⟩))
      simp only[Act.put,List.setIfInBounds_toArray,List.set_cons_zero,List.set_cons_succ]))
   refine RW.done (fun w' hS=>?_)
   obtain⟨HB,⟨c0,c1,c2⟩,⟨d0,d1,d2⟩⟩:=hS
   go_wp2
   go_ret2
   exact⟨by simp[strL_extract,leL_take _ hn8],HB⟩
 ·have hr':rightB vk bits tx k l=false:=by simpa using hr
  rw[encS,encE,if_neg hr,if_neg hr]
  have H:=Lib.hid hr'
  clear hr hr'
  go_enter Tryz.func85,Tryz.ntmps85
  go_wp2_with (first|(go_at_call 115;refine(rRight_is5 _ _ _ _ _ _ h0 h1 _ H.out _).mono ?_;rintro e w1 ⟨rfl,hb⟩;obtain⟨hc,hf⟩:=bcell hb;obtain⟨z0,z1⟩:w.heap.size<w1.heap.size∧w.heap.size+1<w1.heap.size:=(by have hz_:=hb.size;(try simp at hz_);omega);have n_:Below w.heap.size w _:=below_seq (by repeat (first|exact HB|refine Below.setCell ?_ (by dsimp only;omega) _|refine Below.alloc ?_ (by have hs_:=HB.size;first|(simp;done)|(simp;omega)|omega) _|apply Below.drew)) hb;clear HB;have HB:=n_;clear n_))
  go_ret2
  exact⟨rfl,HB⟩
theorem byteZ_nat (n i:Nat):byteZ (n:Int) i=((n / 2 ^ (8 * i) % 256:Nat):Int):=by
 unfold byteZ
 rw[Int.natCast_emod,Int.natCast_ediv,Int.natCast_pow]
 rfl
theorem rEncode_is (vk bits:Int) (tx s:ByteArray) (k l:Int) (h0:0≤bits) (h1:bits<18446744073709551616) (r:ByteArray) (q:Int) (hr:encS vk bits tx k l=r) (hq:encE vk bits tx k l=q) (w:World):
 Calls Tryz.prog 85 #[.agg #[.int .i64 vk,.int .u64 bits,.string tx],.agg #[.string s,.int .i64 k,.int .i64 l]] w fun e w'=>e=.returned (.tuple #[.string r,.int .i64 q])∧Below w.heap.size w w':=by
 subst hr hq;exact rEncode_calls vk bits tx s k l h0 h1 w
theorem long_zero (k l:Int):longZ k l=0↔mayB k l=false:=by
 cases hm:mayB k l
 ·simp[longZ,hm]
 ·simp only[Bool.true_eq_false,iff_false]
  by_cases hk:k=12
  ·subst hk
   have:=btw_iff.1 (mayB_12▸hm)
   rw[long_12 hm];omega
  ·have:=long_cases hm hk;omega
theorem long_ge (k l:Int):0≤longZ k l∧longZ k l≤64:=by
 cases hm:mayB k l
 ·have:=(long_zero k l).2 hm;omega
 ·by_cases hk:k=12
  ·subst hk
   have:=btw_iff.1 (mayB_12▸hm)
   rw[long_12 hm];omega
  ·have:=long_cases hm hk;omega
def okF (fs:List Fd) (i:Nat) (f:Fd):Bool:=nameB f.s && mayB f.k f.l && decide (findZ fs f.s=i)
def rightF (fs:List Fd):Bool:=decide (∀i,∀h:i<fs.length,okF fs i (fs[i]'h)=true) && decide (fs.length≤16)
theorem rightF_bad {fs:List Fd} {i:Nat} {f:Fd} (hi:fs[i]?=some f) (h:okF fs i f=false):rightF fs=false:=by
 rw[rightF,decide_eq_false,Bool.false_and]
 intro ha
 obtain⟨hi1,hi2⟩:=List.getElem?_eq_some_iff.1 hi
 have:=ha i hi1
 rw[hi2,h] at this;cases this
theorem rightF_end {fs:List Fd} (h:∀i f,i<fs.length→fs[i]?=some f→okF fs i f=true):rightF fs=decide (fs.length≤16):=by
 rw[rightF,decide_eq_true (fun i hi=>h i _ hi (List.getElem?_eq_getElem hi)),Bool.true_and]
theorem findZ_le (fs:List Fd) (nm:ByteArray) (k:Nat) (f:Fd) (hk:fs[k]?=some f) (h:f.s=nm):0≤findZ fs nm∧findZ fs nm≤k:=by
 induction fs generalizing k with
 |nil=>simp at hk
 |cons g r ih=>
  rw[findZ]
  split
  ·omega
  ·cases k with
   |zero=>simp at hk;subst hk;contradiction
   |succ k=>
    have:=ih k (by simpa using hk)
    split <;> omega
theorem Name_is (s:ByteArray) (r:Bool) (h:nameB s=r) (w:World):Calls Tryz.prog 50 #[.string s] w fun e w'=>e=.returned (.bool r)∧Below w.heap.size w w':=h▸Name_calls s w
theorem rName_is (s:ByteArray) (hs:s.size≤9223372036854775807) (r:Bool) (h:nameB s=r) (w:World):Calls Tryz.prog 57 #[.string s] w fun e w'=>e=.returned (.bool r)∧Below w.heap.size w w':=h▸rName_calls s hs w
theorem Find_is (A:Option Addr) (c:Nat) (fs:List Fd) (nm:ByteArray) (r:Int) (h:findZ fs nm=r) (w:World) (hA:Rd w A (cellsF fs)) (hl:fs.length≤9223372036854775807):
 Calls Tryz.prog 96 #[.slice A fs.length c,.string nm] w fun e w'=>e=.returned (.int .i64 r)∧Below w.heap.size w w':=h▸Find_calls A c fs nm w hA hl
theorem rFind_is (A:Option Addr) (c:Nat) (fs:List Fd) (nm:ByteArray) (r:Int) (h:findZ fs nm=r) (w:World) (hA:Rd w A (cellsF fs)) (hl:fs.length≤9223372036854775807):
 Calls Tryz.prog 114 #[.slice A fs.length c,.string nm] w fun e w'=>e=.returned (.int .i64 r)∧w=w':=h▸rFind_calls A c fs nm w hA hl
theorem Rd.fld {w:World} {A:Option Addr} {fs:List Fd} (h:Rd w A (cellsF fs)) {k:Nat} {f:Fd} (hf:fs[k]?=some f):∃ad,A=some ad∧w.cell? (ad.add (k * 3))=some (.string f.s)∧w.cell? ⟨(ad.add (k * 3)).block,(ad.add (k * 3)).off+(0+1),none⟩=some (.int .i64 f.k)∧w.cell? ⟨(ad.add (k * 3)).block,(ad.add (k * 3)).off+(1+1),none⟩=some (.int .i64 f.l):=by
 obtain⟨g0,g1,g2⟩:=cellsF_get fs k f hf
 obtain⟨ad,rfl,h0⟩:=h.at g0
 obtain⟨_,e1,h1⟩:=h.at g1
 obtain⟨_,e2,h2⟩:=h.at g2
 cases e1;cases e2
 rw[add_part _ _ 0] at h1
 rw[add_part _ _ 1] at h2
 exact⟨ad,rfl,h0,h1,h2⟩
theorem okF_split (fs:List Fd) (k:Nat) (f:Fd):okF fs k f=false∧nameB f.s=false∨okF fs k f=false∧nameB f.s=true∧mayB f.k f.l=false∨okF fs k f=false∧nameB f.s=true∧mayB f.k f.l=true∧¬findZ fs f.s=k∨okF fs k f=true∧nameB f.s=true∧mayB f.k f.l=true∧findZ fs f.s=k:=by
 unfold okF
 cases nameB f.s <;> cases mayB f.k f.l <;> by_cases h:findZ fs f.s=k <;> simp[h]
theorem FRight_calls (A:Option Addr) (c:Nat) (fs:List Fd) (w:World) (hA:Rd w A (cellsF fs)) (hl:fs.length≤9223372036854775807):
 Calls Tryz.prog 62 #[.slice A fs.length c] w fun e w'=>e=.returned (.bool (rightF fs))∧Below w.heap.size w w':=by
 obtain⟨r,hr⟩:∃r,rightF fs=r:=⟨_,rfl⟩
 rw[hr]
 have HR:=Lib.hid hr
 clear hr
 go_enter Tryz.func62,Tryz.ntmps62
 go_wp2
 go_loopw [3,4,7] (fun _ _ i wr=>∃k:Nat,k≤fs.length∧i=.int .i64 k∧Below w.heap.size w wr∧Hid (∀i f,i<k→fs[i]?=some f→okF fs i f=true)) (fun _ _ i _=>fs.length - (intOf i).toNat)
 case atStart=>exact⟨0,by omega,rfl,Below.refl _ _,Lib.hid fun i f h=>by omega⟩
 case round=>
  obtain⟨k,hk,rfl,HB,hall⟩:=hrel
  have hAr:=hA.below HB
  by_cases hlt:k<fs.length
  ·obtain⟨f,hf⟩:∃f,fs[k]?=some f:=⟨_,List.getElem?_eq_getElem hlt⟩
   obtain⟨ad,rfl,h0,h1,h2⟩:=hAr.fld hf
   have hB1:=HB.alloc HB.size (.cells #[.string f.s,.int .i64 f.k,.int .i64 f.l] 68)
   have F0:=FBox.new wr f.s f.k f.l
   have hA1:=hAr.below (below_new (.cells #[.string f.s,.int .i64 f.k,.int .i64 f.l] 68))
   clear hA hAr
   rcases okF_split fs k f with ⟨ho,hn⟩|⟨ho,hn,hm⟩|⟨ho,hn,hm,hz⟩|⟨ho,hn,hm,hz⟩
   ·obtain rfl:r=false:=HR.out.symm.trans (rightF_bad hf ho)
    have HN:=Lib.hid hn
    clear ho hn hf HR hA1
    go_wp2_with (go_at_call 50;refine(Name_is _ _ HN.out _).mono ?_;rintro e w1 ⟨rfl,hb1⟩)
    go_ret
    exact⟨rfl,hB1.trans (hb1.mono hB1.size)⟩
   ·obtain rfl:r=false:=HR.out.symm.trans (rightF_bad hf ho)
    have HN:=Lib.hid hn
    have HL:=Lib.hid ((long_zero _ _).2 hm)
    clear ho hn hf HR hA1 hm
    go_wp2_with (first
     |(go_at_call 50;refine(Name_is _ _ HN.out _).mono ?_;rintro e w1 ⟨rfl,hb1⟩;obtain⟨c0,c1,c2⟩:=F0.below hb1;clear F0)
     |(go_at_call 89;refine(Long_is _ _ _ _ HL.out _).mono ?_;rintro e w2 ⟨rfl,hb2⟩))
    go_ret
    exact⟨rfl,(hB1.trans (hb1.mono hB1.size)).trans (hb2.mono (Nat.le_trans hB1.size hb1.size))⟩
   ·obtain rfl:r=false:=HR.out.symm.trans (rightF_bad hf ho)
    have HN:=Lib.hid hn
    obtain⟨z,hz2⟩:∃z,findZ fs f.s=z:=⟨_,rfl⟩
    obtain⟨y,hy2⟩:∃y,longZ f.k f.l=y:=⟨_,rfl⟩
    have ht:(z != (k:Int))=true:=by rw[←hz2];simpa using hz
    have hy:(y == 0)=false:=by
     rw[←hy2,beq_eq_false_iff_ne]
     intro h;rw[(long_zero _ _).1 h] at hm;cases hm
    have HL:=Lib.hid hy2
    have HZ:=Lib.hid hz2
    clear ho hn hf HR hm hz hz2 hy2
    go_wp2_with (first
     |(go_at_call 50;refine(Name_is _ _ HN.out _).mono ?_;rintro e w1 ⟨rfl,hb1⟩;obtain⟨c0,c1,c2⟩:=F0.below hb1;clear F0)
     |(go_at_call 89;refine(Long_is _ _ _ _ HL.out _).mono ?_;rintro e w2 ⟨rfl,hb2⟩;obtain⟨d0,d1,d2⟩:=FBox.below ⟨c0,c1,c2⟩ hb2;clear c0 c1 c2)
     |(go_at_call 96;refine(Find_is _ _ _ _ _ HZ.out _ ((hA1.below hb1).below hb2) hl).mono ?_;rintro e w3 ⟨rfl,hb3⟩))
    go_ret
    exact⟨rfl,((hB1.trans (hb1.mono hB1.size)).trans (hb2.mono (Nat.le_trans hB1.size hb1.size))).trans (hb3.mono (Nat.le_trans hB1.size (Nat.le_trans hb1.size hb2.size)))⟩
   ·have hall2:Hid (∀i f,i<k+1→fs[i]?=some f→okF fs i f=true):=Lib.hid fun i g hi hg=>by
     rcases(by omega:i<k∨i=k) with h2|rfl
     ·exact hall.out i g h2 hg
     ·rw[hf] at hg;cases hg;exact ho
    have HN:=Lib.hid hn
    obtain⟨z,hz2⟩:∃z,findZ fs f.s=z:=⟨_,rfl⟩
    obtain⟨y,hy2⟩:∃y,longZ f.k f.l=y:=⟨_,rfl⟩
    have ht:(z != (k:Int))=false:=by rw[←hz2,hz];simp
    have hy:(y == 0)=false:=by
     rw[←hy2,beq_eq_false_iff_ne]
     intro h;rw[(long_zero _ _).1 h] at hm;cases hm
    have HL:=Lib.hid hy2
    have HZ:=Lib.hid hz2
    clear ho hn hf HR hm hz hz2 hy2 hall
    go_wp2_with (first
     |(go_at_call 50;refine(Name_is _ _ HN.out _).mono ?_;rintro e w1 ⟨rfl,hb1⟩;obtain⟨c0,c1,c2⟩:=F0.below hb1;clear F0)
     |(go_at_call 89;refine(Long_is _ _ _ _ HL.out _).mono ?_;rintro e w2 ⟨rfl,hb2⟩;obtain⟨d0,d1,d2⟩:=FBox.below ⟨c0,c1,c2⟩ hb2;clear c0 c1 c2)
     |(go_at_call 96;refine(Find_is _ _ _ _ _ HZ.out _ ((hA1.below hb1).below hb2) hl).mono ?_;rintro e w3 ⟨rfl,hb3⟩))
    go_roundw
    case rel=>exact⟨k+1,by omega,by go_num,((hB1.trans (hb1.mono hB1.size)).trans (hb2.mono (Nat.le_trans hB1.size hb1.size))).trans (hb3.mono (Nat.le_trans hB1.size (Nat.le_trans hb1.size hb2.size))),hall2⟩
    case measure=>simp[intOf];omega
  ·obtain rfl:k=fs.length:=by omega
   have hn:=rightF_end hall.out
   rw[HR.out] at hn
   subst hn
   clear HR hall hAr hA
   go_wp2
   go_ret
   refine⟨ret_bool ?_,HB⟩
   rw[Bool.eq_iff_iff]
   simp only[decide_eq_true_eq]
   constructor <;> intro h <;> omega
theorem rFRight_calls (A:Option Addr) (c:Nat) (fs:List Fd) (w:World) (hA:Rd w A (cellsF fs)) (hl:fs.length≤9223372036854775807) (hs:∀f∈fs,f.s.size≤9223372036854775807):
 Calls Tryz.prog 77 #[.slice A fs.length c] w fun e w'=>e=.returned (.bool (rightF fs))∧Below w.heap.size w w':=by
 obtain⟨r,hr⟩:∃r,rightF fs=r:=⟨_,rfl⟩
 rw[hr]
 have HR:=Lib.hid hr
 clear hr
 go_enter Tryz.func77,Tryz.ntmps77
 go_wp2
 go_loopw [3] (fun i wr=>∃k:Nat,k≤fs.length∧i=.int .i64 k∧Below w.heap.size w wr∧Hid (∀i f,i<k→fs[i]?=some f→okF fs i f=true)) (fun i _=>fs.length - (intOf i).toNat)
 case atStart=>exact⟨0,by omega,rfl,Below.refl _ _,Lib.hid fun i f h=>by omega⟩
 case round=>
  obtain⟨k,hk,rfl,HB,hall⟩:=hrel
  have hAr:=hA.below HB
  by_cases hlt:k<fs.length
  ·obtain⟨f,hf⟩:∃f,fs[k]?=some f:=⟨_,List.getElem?_eq_getElem hlt⟩
   have hsz:=hs f (List.mem_of_getElem? hf)
   obtain⟨ad,rfl,h0,h1,h2⟩:=hAr.fld hf
   clear hA hs
   rcases okF_split fs k f with ⟨ho,hn⟩|⟨ho,hn,hm⟩|⟨ho,hn,hm,hz⟩|⟨ho,hn,hm,hz⟩
   ·obtain rfl:r=false:=HR.out.symm.trans (rightF_bad hf ho)
    have HN:=Lib.hid hn
    clear ho hn hf HR hAr
    go_wp2_with (go_at_call 57;refine(rName_is _ hsz _ HN.out _).mono ?_;rintro e w1 ⟨rfl,hb1⟩)
    go_ret
    exact⟨rfl,HB.trans (hb1.mono HB.size)⟩
   ·obtain rfl:r=false:=HR.out.symm.trans (rightF_bad hf ho)
    have HN:=Lib.hid hn
    have HL:=Lib.hid hm
    clear ho hn hf HR hm
    go_wp2_with (first
     |(go_at_call 57;refine(rName_is _ hsz _ HN.out _).mono ?_;rintro e w1 ⟨rfl,hb1⟩;have c0:=cell_below (B:=0) hb1 h0;have c1:=cell_below (B:=0) hb1 h1;have c2:=cell_below (B:=0) hb1 h2;clear h0 h1 h2)
     |(go_at_call 113;refine(rMay_is _ _ _ _ HL.out _).mono ?_;rintro e w2 ⟨rfl,hb2⟩))
    go_ret
    exact⟨rfl,(HB.trans (hb1.mono HB.size)).trans (hb2.mono (Nat.le_trans HB.size hb1.size))⟩
   ·obtain rfl:r=false:=HR.out.symm.trans (rightF_bad hf ho)
    have HN:=Lib.hid hn
    have HL:=Lib.hid hm
    have hle:=findZ_le fs f.s k f hf rfl
    obtain⟨z,hz2⟩:∃z,findZ fs f.s=z:=⟨_,rfl⟩
    rw[hz2] at hle
    have ht:decide (z<(k:Int))=true:=by rw[hz2] at hz;simp;omega
    have HZ:=Lib.hid hz2
    clear ho hn hf HR hm hz hz2
    go_wp2_with (first
     |(go_at_call 57;refine(rName_is _ hsz _ HN.out _).mono ?_;rintro e w1 ⟨rfl,hb1⟩;have c0:=cell_below (B:=0) hb1 h0;have c1:=cell_below (B:=0) hb1 h1;have c2:=cell_below (B:=0) hb1 h2;clear h0 h1 h2)
     |(go_at_call 113;refine(rMay_is _ _ _ _ HL.out _).mono ?_;rintro e w2 ⟨rfl,hb2⟩;have d0:=cell_below (B:=0) hb2 c0;clear c0 c1 c2)
     |(go_at_call 114;refine(rFind_is _ _ _ _ _ HZ.out _ ((hAr.below hb1).below hb2) hl).mono ?_;rintro e w3 ⟨rfl,rfl⟩))
    go_ret
    exact⟨rfl,(HB.trans (hb1.mono HB.size)).trans (hb2.mono (Nat.le_trans HB.size hb1.size))⟩
   ·have hall2:Hid (∀i f,i<k+1→fs[i]?=some f→okF fs i f=true):=Lib.hid fun i g hi hg=>by
     rcases(by omega:i<k∨i=k) with h2|rfl
     ·exact hall.out i g h2 hg
     ·rw[hf] at hg;cases hg;exact ho
    have HN:=Lib.hid hn
    have HL:=Lib.hid hm
    obtain⟨z,hz2⟩:∃z,findZ fs f.s=z:=⟨_,rfl⟩
    have ht:decide (z<(k:Int))=false:=by rw[←hz2,hz];simp
    have HZ:=Lib.hid hz2
    clear ho hn hf HR hm hz hz2 hall
    go_wp2_with (first
     |(go_at_call 57;refine(rName_is _ hsz _ HN.out _).mono ?_;rintro e w1 ⟨rfl,hb1⟩;have c0:=cell_below (B:=0) hb1 h0;have c1:=cell_below (B:=0) hb1 h1;have c2:=cell_below (B:=0) hb1 h2;clear h0 h1 h2)
     |(go_at_call 113;refine(rMay_is _ _ _ _ HL.out _).mono ?_;rintro e w2 ⟨rfl,hb2⟩;have d0:=cell_below (B:=0) hb2 c0;clear c0 c1 c2)
     |(go_at_call 114;refine(rFind_is _ _ _ _ _ HZ.out _ ((hAr.below hb1).below hb2) hl).mono ?_;rintro e w3 ⟨rfl,rfl⟩))
    go_roundw
    case rel=>exact⟨k+1,by omega,by go_num,(HB.trans (hb1.mono HB.size)).trans (hb2.mono (Nat.le_trans HB.size hb1.size)),hall2⟩
    case measure=>simp[intOf];omega
  ·obtain rfl:k=fs.length:=by omega
   have hn:=rightF_end hall.out
   rw[HR.out] at hn
   subst hn
   clear HR hall hAr hA
   go_wp2
   go_ret
   refine⟨ret_bool ?_,HB⟩
   rw[Bool.eq_iff_iff]
   simp only[decide_eq_true_eq]
   constructor <;> intro h <;> omega
end
end Go.Proofs.YteembinfgbapgaaGreat
