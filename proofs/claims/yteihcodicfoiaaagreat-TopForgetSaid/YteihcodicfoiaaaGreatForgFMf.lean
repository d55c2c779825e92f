/-
  What is proved: the law of TopForget, walked.
-/
import Derived.Test.YteihcodicfoiaaaGreat52Mf
import Derived.Test.YteihcodicfoiaaaGreat42Mf
import Derived.Test.YteihcodicfoiaaaGreatAwakeMf
namespace Go.Proofs.YteihcodicfoiaaaGreat
set_option maxRecDepth 100000
set_option maxHeartbeats 16000000
open Go Go.RowKit
attribute [local go_sem ↓] Hp Dm Bu Ek Dh builds_at68 builds_run build_at42 build_run Cd
theorem forget_any (b:Al) (z:Df) (A:Option Addr) (c:Nat) (l:List Ab) (wh st:Int) (w:World) (hb:Fa w b z) (hl:Gm w A l) (hn:l.length<=9223372036854775807) (hs:∀ n∈l,n.strokes.length<=9223372036854775807)
  (hr:b.reach.length<=9223372036854775807) (hd:b.drive.length<=9223372036854775807)
  (hrr:∀ k,k<b.reach.length->(b.reach.getD k []).length<=9223372036854775807) (hdd:∀ k,k<b.drive.length->(b.drive.getD k []).length<=9223372036854775807) :
  Calls Tryz.prog 4 #[.agg (b.arr z),.slice A l.length c,.int .i64 wh,.int .i64 st] w fun e w'=>e=.returned (.bool true)/\Below w.heap.size w w':=by
 have HSF:=Hd (fun (X:World) (h:Below w.heap.size w X)=>setF_any b z A c l X (hb.below h) (hl.below h) hn hs hr hd hrr hdd)
 have HBA:=Hd (fun (X:World) (h:Below w.heap.size w X)=>hb.below h)
 have HHS:=Hd hs;have HNA:=Hd (fun (X:World) (h:Below w.heap.size w X)=>hl.below h)
 obtain ⟨W,hW⟩:∃ W,w.alloc (.cells (b.arr z) 41)=W:=⟨_,rfl⟩;have hbW:Below w.heap.size w W:=by rw [<- hW];exact Ba
 have X:Bk W w.heap.size 41 (b.arr z):=by rw [<- hW];exact Aa rfl
 have H1:=Hd (Ai X hbW);have HW:=Hd hW;have HAW:=Hd (awake_any W);clear hW X hbW hb hl hs hr hd hrr hdd;go_enter Tryz.func4,Tryz.ntmps4;go_upto_region 1 with fail
 rw [HW.out];clear HW;go_upto_region 2 with (go_at_call 5;refine HAW.out.mono ?_;rintro e w1 ⟨rfl,hb1⟩;have H2:=Hd (Ai (H1.out.1.keep hb1) (H1.out.2.trans (hb1.mono H1.out.2.size)));clear hb1)
 clear H1 HAW;have HSF1:=Hd (HSF.out w1 H2.out.2);have l41:=Ce H2.out.1 rfl;clear HSF;go_upto_region 3 with (go_at_call 6;refine HSF1.out.mono ?_;rintro e w2 ⟨hb2,fr,A1,n1,c1,A2,n2,c2,A3,n3,c3,ok,rfl,hok⟩;unfold FrD.val Dv)
 have hb3:Below w2.heap.size w2 ((w2.alloc (.cells #[.int .i64 fr.rings,.int .i64 fr.sec,.int .i64 fr.wide] 45)).alloc (.cells #[.slice A1 n1 c1,.slice A2 n2 c2,.slice A3 n3 c3] 49)):=Ba.alloc (by simp) _
 have Q45:Bk ((w2.alloc (.cells #[.int .i64 fr.rings,.int .i64 fr.sec,.int .i64 fr.wide] 45)).alloc (.cells #[.slice A1 n1 c1,.slice A2 n2 c2,.slice A3 n3 c3] 49)) w2.heap.size 45 #[.int .i64 fr.rings,.int .i64 fr.sec,.int .i64 fr.wide]:=(Aa rfl).alloc _;have Q49:Bk ((w2.alloc (.cells #[.int .i64 fr.rings,.int .i64 fr.sec,.int .i64 fr.wide] 45)).alloc (.cells #[.slice A1 n1 c1,.slice A2 n2 c2,.slice A3 n3 c3] 49)) (w2.heap.size+1) 49 #[.slice A1 n1 c1,.slice A2 n2 c2,.slice A3 n3 c3]:=Aa (by simp)
 have hB2:=H2.out.2.trans (hb2.mono H2.out.2.size);have H3:=Hd (Ai ((H2.out.1.keep hb2).keep hb3) (Ai Q49 (Ai Q45 (hB2.trans (hb3.mono hB2.size)))));have hs12:=hb2.size;have hpw1:w.heap.size<w1.heap.size:=H2.out.1.lt;clear HSF1 l41 Q49 Q45;cases ok with
 | false =>
  clear hok hb2 hb3 hB2 H2;go_wp2_with fail;go_ret;exact ⟨rfl,H3.out.2.2.2⟩
 | true =>
  obtain ⟨hfr,L,H,E,hR,e1,e2,o1,o2,hc2⟩:=hok rfl;subst hfr e1 e2;have HR:=Hd hR;have HO:=Hd (Ai (o1.below hb3) (o2.below hb3));clear hb2 hb3 hB2 hR o1 o2 hok H2;generalize (w2.alloc _).alloc _=V1 at *;have hs2:w2.heap.size+1<V1.heap.size:=H3.out.2.1.lt;have q1:=H3.out.2.1.cell 1;simp at q1
  by_cases h0:wh<0
  ·go_wp2_with fail;go_ret;exact ⟨rfl,H3.out.2.2.2⟩
  ·by_cases h1:(E.length:Int)<=wh
   ·go_wp2_with fail;go_ret;exact ⟨rfl,H3.out.2.2.2⟩
   ·obtain ⟨k,rfl⟩:∃ k:Nat,wh=k:=⟨wh.toNat,by omega⟩
    have hk:k<E.length:=by omega
    obtain ⟨b6,o6,hA6,hb6,hc6⟩:=evs_at HO.out.2.row (by omega)
    subst hA6;have k0:V1.cell? ⟨b6,o6+k*21,none⟩=some (.int .i64 (E[k]).eh):=hc6 k hk 0 _ rfl;have k1:V1.cell? ⟨b6,o6+k*21+1,none⟩=some (.int .i64 (E[k]).en):=hc6 k hk 1 _ rfl;have k6:V1.cell? ⟨b6,o6+k*21+2+4,none⟩=some (.int .i64 (E[k]).note.kind):=hc6 k hk 6 _ rfl;have hkI:(k:Int)<E.length:=by omega
    by_cases h3:(E[k]).note.kind=3
    ·have HK:=Hd (Ai hk h3);rw [h3] at k6;go_upto_region 5 with fail
     clear k6;have BO:=build68_out (E[k]).eh (E[k]).en V1;have SO:=store68_out (outN (E[k]).eh (E[k]).en) V1;go_upto_region 6 with fail
     have HO2:=Hd (show Below V1.heap.size V1 (V1.alloc (.cells (outN (E[k]).eh (E[k]).en).arr 68))/\Bk (V1.alloc (.cells (outN (E[k]).eh (E[k]).en).arr 68)) V1.heap.size 68 (outN (E[k]).eh (E[k]).en).arr from ⟨Ba,Aa rfl⟩)
     clear BO SO k0 k1;generalize hout:outN (E[k]).eh (E[k]).en=out at *;have HOT:=Hd hout;clear hout;generalize V1.alloc (.cells out.arr 68)=V2 at *;have H4:=Hd (show Bk V2 w.heap.size 41 (b.arr z)/\Bk V2 (w2.heap.size+1) 49 #[.slice A1 H.length c1,.slice (some ⟨b6,o6,none⟩) E.length c2,.slice A3 n3 c3]/\Bk V2 w2.heap.size 45 #[.int .i64 b.fr.rings,.int .i64 b.fr.sec,.int .i64 b.fr.wide]/\Below w.heap.size w V2 from ⟨H3.out.1.keep HO2.out.1,H3.out.2.1.keep HO2.out.1,H3.out.2.2.1.keep HO2.out.1,Fp H3.out.2.2.2 HO2.out.1⟩)
     have hlen30:l.length<=900:=by have:=HR.out.len;omega
     have HL68:=Hd (fun (X:World) (h:Below V2.heap.size V2 X)=>Ah out (HO2.out.2.keep h))
     have HNR:=Hd (HNA.out V2 H4.out.2.2.2).row;have HFD:=Hd (fun (w6:World) (h:Below V2.heap.size V2 w6) (A6:Option Addr) (c6:Nat) (hrow:Ad w6 A6 (Aw (l ++ [out])))=>(show Calls Tryz.prog 9 #[b.fr.val,.slice A6 (l.length+1) c6] w6 (FoldP b.fr (l ++ [out]) w6) from by
      have h9:=Fold_any b.fr (fr_ok HR.out.chk) A6 c6 (l ++ [out]) w6 ⟨hrow,fun n hn=>by
       rcases List.mem_append.1 hn with hn | hn
       ·exact ((HNA.out V2 H4.out.2.2.2).str n hn).below h
       ·rw [List.mem_singleton.1 hn,<- HOT.out];exact fun h0=>absurd h0 (by simp [outN,Ac])⟩ (by have:=HR.out.len;simp;omega) (fun n hn=>by
       rcases List.mem_append.1 hn with hn | hn
       ·exact HHS.out n hn
       ·rw [List.mem_singleton.1 hn,<- HOT.out];simp [outN])
      rw [List.length_append] at h9;exact h9))
     refine wp_region_steps (R6 V2 b.fr A c l out) (by kernel_rfl) (by kernel_rfl) (by kernel_rfl) (R6.start rfl) ?_ ?_
     ·refine Ai ?_ (Ai ?_ (Ai ?_ (Ai ?_ (Ai ?_ (Ai ?_ (Ai ?_ (Ai ?_ (Ai ?_ (Ai ?_ (Ai ?_ (Ai ?_ (Ai ?_ (Ai ?_ trivial)))))))))))))
      ·intro done vals X hd hw hJ;exact Cc (J:=R6 V2 b.fr A c l out) (ex_load rfl (u:=.pointer (some ⟨w2.heap.size,0,none⟩)) ((fill_old (by kernel_rfl)).trans (by kernel_rfl)) (loadN_eq (H4.out.2.2.1.keep hJ.bl) rfl Tryz.underlying45 (by kernel_rfl))) hJ.s0
      ·intro done vals X hd hw hJ;exact Cc (J:=R6 V2 b.fr A c l out) (ex_build0 rfl (build42_0 X)) hJ.s1
      ·intro done vals X hd hw hJ;exact Cc (J:=R6 V2 b.fr A c l out) (ex_move rfl ((fill_old (by kernel_rfl)).trans (by kernel_rfl))) hJ.s2
      ·intro done vals X hd hw hJ;have h1:done 1=true:=hw ⟨1,.data⟩ (by simp) rfl
       have h2:done 2=true:=hw ⟨2,.data⟩ (by simp) rfl
       obtain ⟨g,e1,hg,hgk⟩:=hJ.b1 h1 hd;obtain ⟨v',w',hr,ho,hb,hgr⟩:=run_copy_notes hJ.bl hg hgk A c l HNR.out hlen30;exact Cc (J:=R6 V2 b.fr A c l out) (ex_append rfl ((Cl 1 (by kernel_rfl) (by kernel_rfl) (Ge (by kernel_rfl)) h1).trans e1) ((Cl 2 (by kernel_rfl) (by kernel_rfl) (Ge (by kernel_rfl)) h2).trans (hJ.c2 h2)) hr) (hJ.s3 hd h1 ho hb (fun g' e'=>by
        have e3:=e1.symm.trans e';injection e3 with e3
        injection e3 with e3
        injection e3 with e3
        rw [<- e3];exact hgr))
      ·intro done vals X hd hw hJ;exact Cc (J:=R6 V2 b.fr A c l out) (ex_load rfl (u:=.pointer (some ⟨V1.heap.size,0,none⟩)) ((fill_old (by kernel_rfl)).trans (by kernel_rfl)) (HL68.out X hJ.bl)) hJ.s4
      ·intro done vals X hd hw hJ;have h4:done 4=true:=hw ⟨4,.data⟩ (by simp) rfl
       exact Cc (J:=R6 V2 b.fr A c l out) (ex_build1 rfl ((Cl 4 (by kernel_rfl) (by kernel_rfl) (Ge (by kernel_rfl)) h4).trans (hJ.c4 h4)) (build42 out X)) hJ.s5
      ·intro done vals X hd hw hJ;have h3:done 3=true:=hw ⟨3,.data⟩ (by simp) rfl
       have h5:done 5=true:=hw ⟨5,.data⟩ (by simp) rfl
       have ha3:=hJ.a3 h3 hd;obtain ⟨q,e5,hk5⟩:=hJ.b5 h5 hd;obtain ⟨v',w',hr,ho,hgr⟩:=run_append_notes V2.heap.size (vals 3) l.length (Aw l) X ha3 (some ⟨q,0,none⟩) 1 [out] (fun _=>⟨q,0,rfl,hk5.lt,fun j u hu=>by
        rw [Nat.zero_add,hk5.cell j]
        simpa [Aw] using hu⟩) (by simp;omega) hJ.bl.size
       have ho2:w'.ownsRow V2.heap.size 68 19 v' (l.length+1) (Aw (l ++ [out])):=by simpa [Aw] using ho
       obtain ⟨A6,c6,rfl,_,hrow6,_⟩:=Au ho2;exact Cc (J:=R6 V2 b.fr A c l out) (ex_append rfl (Cl 3 (by kernel_rfl) (by kernel_rfl) (Ge (by kernel_rfl)) h3) ((Cl 5 (by kernel_rfl) (by kernel_rfl) (Ge (by kernel_rfl)) h5).trans e5) hr) (hJ.s6 hd h3 hrow6 (hJ.bl.grown hgr hJ.bl.size (fun k hk=>(ha3.lt k hk).1)) hgr)
      ·intro done vals X hd hw hJ;have h0:done 0=true:=hw ⟨0,.data⟩ (by simp) rfl
       have h6:done 6=true:=hw ⟨6,.data⟩ (by simp) rfl
       obtain ⟨A6,c6,e6,hrow6⟩:=hJ.a6 h6 hd;refine set_enter (J:=R6 V2 b.fr A c l out) (ex_call2 rfl rfl ((Cl 0 (by kernel_rfl) (by kernel_rfl) (Ge (by kernel_rfl)) h0).trans (hJ.c0 h0)) ((Cl 6 (by kernel_rfl) (by kernel_rfl) (Ge (by kernel_rfl)) h6).trans e6) (enter9 _ X)) ?_
       refine (HFD.out X hJ.bl A6 c6 hrow6).mono ?_;rintro e w7 he7;obtain ⟨hb7,B1,m1,d1,B2,m2,d2,B3,m3,d3,code,rfl,hV⟩:=FoldP.valu he7;exact ⟨_,rfl,hJ.s7 hd h6 hb7 hV⟩
      ·intro done vals X hd hw hJ;have h7:done 7=true:=hw ⟨7,.data⟩ (by simp) rfl
       exact Cc (J:=R6 V2 b.fr A c l out) (ex_move rfl (Cl 7 (by kernel_rfl) (by kernel_rfl) (Ge (by kernel_rfl)) h7)) (hJ.s8 h7)
      ·intro done vals X hd hw hJ;have h8:done 8=true:=hw ⟨8,.data⟩ (by simp) rfl
       obtain ⟨A1',n1',c1',A2',n2',c2',A3',n3',c3',code,e7,_⟩:=hJ.k7 (hJ.o8 h8);exact Cc (J:=R6 V2 b.fr A c l out) (ex_extract rfl (Cl 8 (by kernel_rfl) (by kernel_rfl) (Ge (by kernel_rfl)) h8) (by rw [hJ.m8 h8,e7];exact extract_tup _ 0 (by simp) X)) (hJ.s9 hd h8)
      ·intro done vals X hd hw hJ;have h8:done 8=true:=hw ⟨8,.data⟩ (by simp) rfl
       obtain ⟨A1',n1',c1',A2',n2',c2',A3',n3',c3',code,e7,_⟩:=hJ.k7 (hJ.o8 h8);exact Cc (J:=R6 V2 b.fr A c l out) (ex_extract rfl (Cl 8 (by kernel_rfl) (by kernel_rfl) (Ge (by kernel_rfl)) h8) (by rw [hJ.m8 h8,e7];exact extract_tup _ 1 (by simp) X)) (hJ.s10 hd h8)
      ·intro done vals X hd hw hJ;exact Cc (J:=R6 V2 b.fr A c l out) (ex_alloc rfl (alloc49_0 X)) (hJ.s11 hd)
      ·intro done vals X hd hw hJ;have h9:done 9=true:=hw ⟨9,.data⟩ (by simp) rfl
       have h11:done 11=true:=hw ⟨11,.data⟩ (by simp) rfl
       obtain ⟨p,old,cs,e11,hk,ho3,hc3,hone,e9,hJ'⟩:=hJ.s12 h9 h11;exact set_skip (J:=R6 V2 b.fr A c l out) (ex_store rfl ((Cl 11 (by kernel_rfl) (by kernel_rfl) (Ge (by kernel_rfl)) h11).trans e11) ((Cl 9 (by kernel_rfl) (by kernel_rfl) (Ge (by kernel_rfl)) h9).trans e9) (Be hk (by rw [hc3];kernel_rfl) (by rw [ho3,hc3]) (Array.all_eq_true_iff_forall_mem.2 (by simpa using hone)))) hJ'
      ·intro done vals X hd hw hJ;have h10:done 10=true:=hw ⟨10,.data⟩ (by simp) rfl
       exact Cc (J:=R6 V2 b.fr A c l out) (ex_assign rfl (Cl 10 (by kernel_rfl) (by kernel_rfl) (Ge (by kernel_rfl)) h10)) (hJ.s13 h10)
     ·intro vals X hJ;obtain ⟨p14,B1,m1,d1,B2,m2,d2,B3,m3,d3,code,e14,e15,hp14,hbX,hk14,hF⟩:=hJ.fin;clear hJ;simp only [El,if_true,Nat.reduceAdd,e14,e15];generalize vals 0=y0;generalize vals 1=y1;generalize vals 2=y2;generalize vals 3=y3;generalize vals 4=y4;generalize vals 5=y5;generalize vals 6=y6;generalize vals 7=y7;generalize vals 8=y8;generalize vals 9=y9;generalize vals 10=y10;generalize vals 12=y12;clear e14 e15 vals;have H5:=Hd (show Bk X w.heap.size 41 (b.arr z)/\Bk X (w2.heap.size+1) 49 #[.slice A1 H.length c1,.slice (some ⟨b6,o6,none⟩) E.length c2,.slice A3 n3 c3]/\Below w.heap.size w X/\Bk X p14 49 #[.slice B1 m1 d1,.slice B2 m2 d2,.slice B3 m3 d3]/\Fc w1.heap.size X A1 H/\Fc w1.heap.size X (some ⟨b6,o6,none⟩) E from ⟨H4.out.1.keep hbX,H4.out.2.1.keep hbX,Fp H4.out.2.2.2 hbX,hk14,(HO.out.1.below HO2.out.1).below hbX,(HO.out.2.below HO2.out.1).below hbX⟩)
      clear HFD HNR HL68 hbX hk14 HO HO2 H3 H4 hc6 q1 hb6 hp14;have z1:=H5.out.2.1.cell 1;have u1:=H5.out.2.2.2.1.cell 1;simp at z1 u1;rcases hF with ⟨hset,rfl⟩ | ⟨hset,rfl,L',hperm,hsort,ho1,ho2,rfl,rfl⟩
      ·go_wp2_with fail;go_ret;exact ⟨rfl,H5.out.2.2.1⟩
      ·have hag:=again_reg HR.out hk h3 (by rw [<- HOT.out];rfl) (by rw [<- HOT.out];rfl) (by rw [<- HOT.out];rfl) hset hperm hsort
       generalize (Bi (L'.map Ay)).1=H' at *;generalize (Bi (L'.map Ay)).2=E' at *;have hlen:E'.length+1=E.length:=by
        have:=congrArg List.length hag.2;simp only [List.length_map,List.length_eraseIdx,hk,if_true] at this;omega
       have HAG:=Hd (Ai hag (Ai ho1 ho2));have hlb:((E'.length:Int) == (E.length:Int) - 1)=true:=by simp;omega
       have HLN:=Hd hlen;clear hag ho1 ho2 hset hperm hsort hlen;go_upto_region 9 with fail
       ·go_ret;exact ⟨rfl,H5.out.2.2.1⟩
       ·have l49:=Ct H5.out.2.1 rfl;have hb9:Below X.heap.size X (X.alloc (.cells #[.slice A1 H.length c1,.slice (some ⟨b6,o6,none⟩) E.length c2,.slice A3 n3 c3] 49)):=Ba;have H9:=Hd (Ai hb9 (Aa (w:=X) (t:=49) (cs:=#[.slice A1 H.length c1,.slice (some ⟨b6,o6,none⟩) E.length c2,.slice A3 n3 c3]) rfl));clear z1 u1 hlb hb9;go_upto_region 10 with fail
        clear l49;generalize X.alloc _=V9 at *;have HC2:=Hd hc2;have HEL:=Hd (show E.length<=10 from HR.out.e10)
        have HRow:=Hd ((H5.out.2.2.2.2.2.below H9.out.1).row.row);have HB9:=Hd (H5.out.2.1.keep H9.out.1);have H10:=Hd (show Bk V9 w.heap.size 41 (b.arr z)/\Bk V9 p14 49 #[.slice B1 H'.length d1,.slice B2 E'.length d2,.slice B3 m3 d3]/\Below w.heap.size w V9/\Fc w1.heap.size V9 A1 H/\Fc w1.heap.size V9 (some ⟨b6,o6,none⟩) E/\Fc 0 V9 B1 H'/\Fc 0 V9 B2 E'/\w.heap.size<=X.heap.size/\w2.heap.size+1≠X.heap.size/\p14≠X.heap.size from ⟨H5.out.1.keep H9.out.1,H5.out.2.2.2.1.keep H9.out.1,Fp H5.out.2.2.1 H9.out.1,H5.out.2.2.2.2.1.below H9.out.1,H5.out.2.2.2.2.2.below H9.out.1,HAG.out.2.1.below H9.out.1,HAG.out.2.2.below H9.out.1,H5.out.2.2.1.size,Nat.ne_of_lt H5.out.2.1.lt,Nat.ne_of_lt H5.out.2.2.2.1.lt⟩)
        generalize X.heap.size=p16 at *;refine wp_region_steps (R10 V9 (w2.heap.size+1) p16 k b6 o6 E c2) (by kernel_rfl) (by kernel_rfl) (by kernel_rfl) (R10.start rfl) ?_ ?_
        ·refine Ai ?_ (Ai ?_ (Ai ?_ (Ai ?_ (Ai ?_ (Ai ?_ (Ai ?_ (Ai ?_ (Ai ?_ (Ai ?_ (Ai ?_ (Ai ?_ (Ai ?_ (Ai ?_ trivial)))))))))))))
         ·intro done vals Y hd hw hJ;exact Cc (J:=R10 V9 (w2.heap.size+1) p16 k b6 o6 E c2) (ex_build0 rfl (build46_0 Y)) (hJ.s0 hd)
         ·intro done vals Y hd hw hJ;exact Cc (J:=R10 V9 (w2.heap.size+1) p16 k b6 o6 E c2) (ex_fieldAddr rfl (u:=.pointer (some ⟨w2.heap.size+1,0,none⟩)) ((fill_old (by kernel_rfl)).trans (by kernel_rfl)) (fieldAt49 _ Y)) (hJ.s1 hd)
         ·intro done vals Y hd hw hJ;have h1:done 1=true:=hw ⟨1,.data⟩ (by simp) rfl
          exact Cc (J:=R10 V9 (w2.heap.size+1) p16 k b6 o6 E c2) (ex_load rfl ((Cl 1 (by kernel_rfl) (by kernel_rfl) (Ge (by kernel_rfl)) h1).trans (hJ.c1 h1)) (load46_cell (((HB9.out.keep (hJ.bl (hJ.nd hd (by decide)))).cell 1).trans rfl))) (hJ.s2 hd)
         ·intro done vals Y hd hw hJ;exact Cc (J:=R10 V9 (w2.heap.size+1) p16 k b6 o6 E c2) (ex_move rfl ((fill_old (by kernel_rfl)).trans (by kernel_rfl))) (hJ.s3 hd)
         ·intro done vals Y hd hw hJ;have h2:done 2=true:=hw ⟨2,.data⟩ (by simp) rfl
          have h3':done 3=true:=hw ⟨3,.data⟩ (by simp) rfl
          exact Cc (J:=R10 V9 (w2.heap.size+1) p16 k b6 o6 E c2) (ex_slice rfl ((Cl 2 (by kernel_rfl) (by kernel_rfl) (Ge (by kernel_rfl)) h2).trans (hJ.c2 h2)) rfl (congrArg some ((Cl 3 (by kernel_rfl) (by kernel_rfl) (Ge (by kernel_rfl)) h3').trans (hJ.c3 h3'))) rfl (by
           rw [List.length_take_of_le (by omega)]
           exact run_slice_hi (by omega))) (hJ.s4 hd)
         ·intro done vals Y hd hw hJ;have h0':done 0=true:=hw ⟨0,.data⟩ (by simp) rfl
          have h4:done 4=true:=hw ⟨4,.data⟩ (by simp) rfl
          have hbl:=hJ.bl (hJ.nd hd (by decide))
          obtain ⟨v',Y',hr,ho,hg⟩:=run_append_evs V9.heap.size (vals 0) 0 [] Y (hJ.b0 h0' hd) (some ⟨b6,o6,none⟩) c2 (E.take k) (row_take (HRow.out.below hbl) k) (by have:=HEL.out;simp;omega) hbl.size
          exact Cc (J:=R10 V9 (w2.heap.size+1) p16 k b6 o6 E c2) (ex_append rfl (Cl 0 (by kernel_rfl) (by kernel_rfl) (Ge (by kernel_rfl)) h0') ((Cl 4 (by kernel_rfl) (by kernel_rfl) (Ge (by kernel_rfl)) h4).trans (hJ.c4 h4)) hr) (hJ.s5 hd h0' (by rw [Nat.zero_add,List.nil_append] at ho;exact ho) hg)
         ·intro done vals Y hd hw hJ;exact Cc (J:=R10 V9 (w2.heap.size+1) p16 k b6 o6 E c2) (ex_fieldAddr rfl (u:=.pointer (some ⟨w2.heap.size+1,0,none⟩)) ((fill_old (by kernel_rfl)).trans (by kernel_rfl)) (fieldAt49 _ Y)) (hJ.s6 hd)
         ·intro done vals Y hd hw hJ;have h6:done 6=true:=hw ⟨6,.data⟩ (by simp) rfl
          exact Cc (J:=R10 V9 (w2.heap.size+1) p16 k b6 o6 E c2) (ex_load rfl ((Cl 6 (by kernel_rfl) (by kernel_rfl) (Ge (by kernel_rfl)) h6).trans (hJ.c6 h6)) (load46_cell (((HB9.out.keep (hJ.bl (hJ.nd hd (by decide)))).cell 1).trans rfl))) (hJ.s7 hd)
         ·intro done vals Y hd hw hJ;exact Cc (J:=R10 V9 (w2.heap.size+1) p16 k b6 o6 E c2) (ex_move rfl ((fill_old (by kernel_rfl)).trans (by kernel_rfl))) (hJ.s8 hd)
         ·intro done vals Y hd hw hJ;have h8:done 8=true:=hw ⟨8,.data⟩ (by simp) rfl
          exact Cc (J:=R10 V9 (w2.heap.size+1) p16 k b6 o6 E c2) (ex_binOp rfl ((Cl 8 (by kernel_rfl) (by kernel_rfl) (Ge (by kernel_rfl)) h8).trans (hJ.c8 h8)) rfl (add_one_run k (by have:=HEL.out;omega) _ _ Y)) (hJ.s9 hd)
         ·intro done vals Y hd hw hJ;have h7:done 7=true:=hw ⟨7,.data⟩ (by simp) rfl
          have h9:done 9=true:=hw ⟨9,.data⟩ (by simp) rfl
          exact Cc (J:=R10 V9 (w2.heap.size+1) p16 k b6 o6 E c2) (ex_slice rfl ((Cl 7 (by kernel_rfl) (by kernel_rfl) (Ge (by kernel_rfl)) h7).trans (hJ.c7 h7)) (congrArg some ((Cl 9 (by kernel_rfl) (by kernel_rfl) (Ge (by kernel_rfl)) h9).trans (hJ.c9 h9))) rfl rfl (by
           rw [List.length_drop];exact run_slice_lo (k:=k+1) (by omega))) (hJ.s10 hd)
         ·intro done vals Y hd hw hJ;have h5:done 5=true:=hw ⟨5,.data⟩ (by simp) rfl
          have h10:done 10=true:=hw ⟨10,.data⟩ (by simp) rfl
          have hbl:=hJ.bl (hJ.nd hd (by decide))
          obtain ⟨v',Y',hr,ho,hg⟩:=run_append_evs V9.heap.size (vals 5) _ _ Y (hJ.a5 h5 hd) (restEv b6 o6 (k+1) c2) (c2 - (k+1)) (E.drop (k+1)) (row_drop (HRow.out.below hbl) (k+1) c2 HC2.out) (by have:=HEL.out;simp;omega) hbl.size
          exact Cc (J:=R10 V9 (w2.heap.size+1) p16 k b6 o6 E c2) (ex_append rfl (Cl 5 (by kernel_rfl) (by kernel_rfl) (Ge (by kernel_rfl)) h5) ((Cl 10 (by kernel_rfl) (by kernel_rfl) (Ge (by kernel_rfl)) h10).trans (hJ.c10 h10)) hr) (hJ.s11 hd h5 ho hg)
         ·intro done vals Y hd hw hJ;exact Cc (J:=R10 V9 (w2.heap.size+1) p16 k b6 o6 E c2) (ex_fieldAddr rfl (u:=.pointer (some ⟨p16,0,none⟩)) ((fill_old (by kernel_rfl)).trans (by kernel_rfl)) (fieldAt49 _ Y)) (hJ.s12 hd)
         ·intro done vals Y hd hw hJ;have hall:∀ i,i<13->done i=true:=fun i hi=>match i,hi with
           | 0,_=>hw ⟨0,.phase⟩ (by simp) rfl
           | 1,_=>hw ⟨1,.phase⟩ (by simp) rfl
           | 2,_=>hw ⟨2,.phase⟩ (by simp) rfl
           | 3,_=>hw ⟨3,.phase⟩ (by simp) rfl
           | 4,_=>hw ⟨4,.phase⟩ (by simp) rfl
           | 5,_=>hw ⟨5,.phase⟩ (by simp) rfl
           | 6,_=>hw ⟨6,.phase⟩ (by simp) rfl
           | 7,_=>hw ⟨7,.phase⟩ (by simp) rfl
           | 8,_=>hw ⟨8,.phase⟩ (by simp) rfl
           | 9,_=>hw ⟨9,.phase⟩ (by simp) rfl
           | 10,_=>hw ⟨10,.phase⟩ (by simp) rfl
           | 11,_=>hw ⟨11,.phase⟩ (by simp) rfl
           | 12,_=>hw ⟨12,.data⟩ (by simp) rfl
           | n+13,h=>absurd h (by omega)
          have h11:=hall 11 (by decide)
          have h12:=hall 12 (by decide)
          obtain ⟨A9,c9,e11,_⟩:=Au (hJ.a11 h11 hd);exact set_skip (J:=R10 V9 (w2.heap.size+1) p16 k b6 o6 E c2) (ex_store rfl ((Cl 12 (by kernel_rfl) (by kernel_rfl) (Ge (by kernel_rfl)) h12).trans (hJ.c12 h12)) (Cl 11 (by kernel_rfl) (by kernel_rfl) (Ge (by kernel_rfl)) h11) (by rw [e11];exact store46_cell (H9.out.2.keep (hJ.bl hd)) (by simp))) (hJ.s13 hd hall)
        ·intro vals V10 hJ;obtain ⟨Y,A9,c9,hbY,hoY,eV⟩:=hJ.fin hk;clear hJ;simp only [El,if_true,Nat.reduceAdd];generalize vals 0=t0;generalize vals 1=t1;generalize vals 2=t2;generalize vals 3=t3;generalize vals 4=t4;generalize vals 5=t5;generalize vals 6=t6;generalize vals 7=t7;generalize vals 8=t8;generalize vals 9=t9;generalize vals 10=t10;generalize vals 11=t11;generalize vals 12=t12;generalize vals 13=t13;clear vals;have kY:=H9.out.2.keep hbY;have oE:=H10.out.2.2.2.2.1.below hbY;have hoff:∀ (n:Nat) (A:Option Addr) (G:List EvD),Fc n Y A G->Fc n V10 A G:=fun n A G h=>h.off kY rfl (fun j hj=>by rw [eV];exact Below.heap_setCell _ _ _ _ hj) (by rw [eV];simp)
         have hfar:∀ (q t:Nat) (cs:Array Value),q≠p16->Bk Y q t cs->Bk V10 q t cs:=fun q t cs hq h=>by rw [eV];exact h.far (p:=⟨p16,1,none⟩) hq _
         have k10:Bk V10 p16 49 #[.slice A1 H.length c1,.slice A9 (E.eraseIdx k).length c9,.slice A3 n3 c3]:=by rw [eV];exact kY.put 1 _
         have HZ:=Hd (show Bk V10 w.heap.size 41 (b.arr z)/\Bk V10 (w2.heap.size+1) 49 #[.slice A1 H.length c1,.slice (some ⟨b6,o6,none⟩) E.length c2,.slice A3 n3 c3]/\Bk V10 p14 49 #[.slice B1 H'.length d1,.slice B2 E'.length d2,.slice B3 m3 d3]/\Bk V10 p16 49 #[.slice A1 H.length c1,.slice A9 (E.eraseIdx k).length c9,.slice A3 n3 c3]/\Below w.heap.size w V10/\Gg V10 A1 H/\Gg V10 (some ⟨b6,o6,none⟩) E/\Gg V10 B1 H'/\Gg V10 B2 E'/\Gg V10 A9 (E.eraseIdx k) from
          ⟨hfar _ _ _ (fun e=>absurd (H10.out.1.ne H9.out.2 (by decide)) (by simpa using e)) (H10.out.1.keep hbY),hfar _ _ _ H10.out.2.2.2.2.2.2.2.2.1 (HB9.out.keep hbY),hfar _ _ _ H10.out.2.2.2.2.2.2.2.2.2 (H10.out.2.1.keep hbY),k10,by rw [eV];exact (Fp H10.out.2.2.1 hbY).setCell (p:=⟨p16,1,none⟩) H10.out.2.2.2.2.2.2.2.1 _,
           (hoff _ _ _ (H10.out.2.2.2.1.below hbY)).row,(hoff _ _ _ oE).row,(hoff _ _ _ (H10.out.2.2.2.2.2.1.below hbY)).row,(hoff _ _ _ (H10.out.2.2.2.2.2.2.1.below hbY)).row,
           (hoff V9.heap.size _ _ ⟨⟨Gu hoY,fun e he=>oE.row.str e (List.mem_of_mem_eraseIdx he)⟩,fun a ha=>(Kc hoY a ha).1,fun e he=>oE.st e (List.mem_of_mem_eraseIdx he)⟩).row⟩)
         have HRR:=Hd (Ai (((HR.out.reg.erase k).congr HAG.out.1.1 HAG.out.1.2)) (Ai (HR.out.reg.erase k) HR.out.reg));clear kY oE hoff hfar k10 eV hbY hoY H10 H9 HB9 HRow H5;have HH1:=Hd (fun (U:World) (h:Below V10.heap.size V10 U)=>bheights_any st b z H' E' B1 B2 B3 d1 d2 m3 d3 U (HBA.out U (Fp HZ.out.2.2.2.2.1 h)) HRR.out.1 (HZ.out.2.2.2.2.2.2.2.1.below h) (HZ.out.2.2.2.2.2.2.2.2.1.below h))
         have HH2:=Hd (fun (U:World) (h:Below V10.heap.size V10 U)=>bheights_any st b z H (E.eraseIdx k) A1 A9 A3 c1 c9 n3 c3 U (HBA.out U (Fp HZ.out.2.2.2.2.1 h)) HRR.out.2.1 (HZ.out.2.2.2.2.2.1.below h) (HZ.out.2.2.2.2.2.2.2.2.2.below h))
         have HH3:=Hd (fun (U:World) (h:Below V10.heap.size V10 U)=>bheights_any st b z H E A1 (some ⟨b6,o6,none⟩) A3 c1 c2 n3 c3 U (HBA.out U (Fp HZ.out.2.2.2.2.1 h)) HRR.out.2.2 (HZ.out.2.2.2.2.2.1.below h) (HZ.out.2.2.2.2.2.2.1.below h))
         unfold Dv at HH1 HH2 HH3;have l41:=Ce HZ.out.1 rfl;have l49:=Ct HZ.out.2.2.1 rfl;go_upto_region 12 with (go_at_call 10;refine (HH1.out _ (Below.refl _ _)).mono ?_;rintro e w5 ⟨hb5,cd1,l1,C1,cc1,rfl,hrow1,hl1,hv1⟩)
         clear l41 l49 HH1;have l41:=Ce (HZ.out.1.keep hb5) rfl;have l49:=Ct (HZ.out.2.2.2.1.keep hb5) rfl;have HB5:=Hd hb5;have HV1:=Hd (show BHV b st H' E' cd1 l1/\Ad w5 C1 (Am l1) from ⟨hv1,hrow1⟩)
         clear hb5 hv1 hrow1;go_upto_region 13 with (go_at_call 10;refine (HH2.out _ HB5.out).mono ?_;rintro e w6 ⟨hb6,cd2,l2,C2,cc2,rfl,hrow2,hl2,hv2⟩)
         clear l41 l49 HH2;have hB6:=Fp HB5.out hb6;have l41:=Ce (HZ.out.1.keep hB6) rfl;have l49:=Ct (HZ.out.2.1.keep hB6) rfl;have HB6:=Hd hB6;have HV2:=Hd (show BHV b st H (E.eraseIdx k) cd2 l2/\Ad w6 C2 (Am l2)/\Ad w6 C1 (Am l1) from ⟨hv2,hrow2,HV1.out.2.below hb6⟩)
         clear hb6 hv2 hrow2 hB6;go_upto_region 14 with (go_at_call 10;refine (HH3.out _ HB6.out).mono ?_;rintro e w7 ⟨hb7,cd3,l3,C3,cc3,rfl,hrow3,hl3,hv3⟩)
         clear l41 l49 HH3;have HB7:=Hd (Fp HZ.out.2.2.2.2.1 (Fp HB6.out hb7));have HV3:=Hd (show BHV b st H E cd3 l3/\Ad w7 C3 (Am l3)/\Ad w7 C2 (Am l2)/\Ad w7 C1 (Am l1) from ⟨hv3,hrow3,HV2.out.2.1.below hb7,HV2.out.2.2.below hb7⟩)
         clear hb7 hv3 hrow3;obtain ⟨rfl,rfl⟩:=bhv_same HV2.out.1 HV1.out.1 HAG.out.1.1 HAG.out.1.2;have HSS:=Hd (sameSpans_any C1 C2 cc1 cc2 l1 l1 w7 HV3.out.2.2.2 HV3.out.2.2.1 (by omega) (by omega))
         go_upto_region 16 with (go_at_call 11;refine HSS.out.mono ?_;rintro e w8 ⟨rfl,hb8⟩)
         have HV4:=Hd (show Below w.heap.size w w8/\Ad w8 C3 (Am l3)/\Ad w8 C1 (Am l1) from ⟨Fp HB7.out hb8,HV3.out.2.1.below hb8,HV3.out.2.2.2.below hb8⟩)
         clear hb8 HSS
         by_cases hc3:cd3=0
         ·subst hc3;obtain ⟨rfl,hlen,hle⟩:=bhv_less HV3.out.1 hk h3 HV2.out.1;have HLE:=Hd hle;have HLL:=Hd hlen;clear hle;have hlI:(l1.length:Int)=l3.length:=by omega
          go_upto_region 21 with fail
          have HB0:=Hd (show Below w8.heap.size w8 w8 from Below.refl _ _)
          clear hlen hlI;go_loopw [22] (fun i wr=>∃ q:Nat,q<=l1.length/\i=.int .i64 q/\Hid (Below w8.heap.size w8 wr)) (fun i _=>l1.length - (intOf i).toNat)
          case atStart=>exact ⟨0,Nat.zero_le _,rfl,HB0⟩
          case round =>
           obtain ⟨q,hq,rfl,HBr⟩:=hrel;clear HB0
           by_cases hlt:q<l1.length
           ·have hqI:(q:Int)<l1.length:=by omega
            have hq3:(q:Int)<l3.length:=by have:=HLL.out;omega
            obtain ⟨b7,o7,hA7,hb7,hc7⟩:=span_row (HV4.out.2.2.below HBr.out) (by omega)
            obtain ⟨b8,o8,hA8,hb8,hc8⟩:=span_row (HV4.out.2.1.below HBr.out) (by omega)
            obtain ⟨g0,g1⟩:=hc7 q hlt;obtain ⟨d0,d1⟩:=hc8 q (by omega)
            obtain ⟨le1,le2⟩:=HLE.out q (by have:=HLL.out;omega)
            rw [hA7,hA8];clear hA7 hA8 hc7 hc8;generalize l1.getD q (0,0)=x at *;generalize l3.getD q (0,0)=y at *;obtain ⟨x1,x2⟩:=x;obtain ⟨y1,y2⟩:=y;simp only at g0 g1 d0 d1 le1 le2;have f1:decide (y1<x1)=false:=by simp;omega
            have f2:decide (x2<y2)=false:=by simp;omega
            go_wp2_with fail;go_quiet (fail);go_wp2_with fail;go_roundw
            case rel=>exact ⟨q+1,by omega,by go_num,Hd (As HBr.out _)⟩
            case measure=>simp [intOf];omega
           ·go_wp2_with fail;go_ret;exact ⟨rfl,Fp HV4.out.1 HBr.out⟩
         ·go_wp2_with fail;go_ret;exact ⟨rfl,HV4.out.1⟩
    ·have h3b:((E[k]).note.kind == 3)=false:=by simpa using h3
     go_wp2_with fail;go_ret;exact ⟨rfl,H3.out.2.2.2⟩
end Go.Proofs.YteihcodicfoiaaaGreat
