/-
  What is proved: the contract of events.
-/
import Derived.Test.YteihcodicfoiaaaGreat29Mf
namespace Go.Proofs.YteihcodicfoiaaaGreat
set_option maxRecDepth 100000
set_option maxHeartbeats 8000000
open Go Go.RowKit
theorem info68n:(Tryz.prog.info? 68).map (fun i=>(i.zero,i.size,i.bytes))=some (some (.agg z68),19,168):=by kernel_rfl
theorem note_block {w:World} {q:Nat} {n:Ab} (h:Bk w q 68 n.arr):∀ (j:Nat) (u:Value),n.arr.toList[j]?=some u->w.cell? ((⟨q,0,none⟩:Addr).add j)=some u:=fun j u hu=>by
 rw [De,Nat.zero_add,h.cell j,<- Array.getElem?_toList];exact hu
theorem arr_ones (n:Ab):∀ u∈n.arr.toList,u.oneCell'=true:=fun u hu=>by
 have h:=Eb n;rw [<- Array.all_toList,List.all_eq_true] at h;exact h u hu
theorem judge_look {l D:List Ab} {J:Br} (hp:D.Perm l) (h:Fs l D J) (hn:(l.map Ab.name).Nodup) {n:Ab} (hm:n∈l) :
  ∃ o:Option Ab,Ha J n.name=o.map (fun n=>.agg n.arr)/\(∀ j,o=some j->j∈l)/\(Gw n=true->o=best (l.filter (cand n))):=by
 refine ⟨best (D.filter (Ej l n.name)),h n.name,fun j hj=>?_,fun hd=>?_⟩
 ·exact hp.mem_iff.1 (List.mem_filter.1 (best_mem hj)).1
 ·have e:Ej l n.name=cand n:=by funext x;exact heldFor_cand hn hm hd
  rw [e,best_perm (hp.filter _) (fun a ha b hb=>Ke hn (List.mem_filter.1 ha).1 (List.mem_filter.1 hb).1)]
theorem look_got (o:Option Ab):((o.map fun n=>Value.agg n.arr).getD (.agg z68))=.agg (o.getD Bq).arr:=by
 cases o with
 | none=>rfl
 | some j=>rfl
attribute [local go_sem ↓] Cd Bu Ek Dh build_at42 build_run
theorem events_any (l:List Ab) (p g gj:Nat) (J:Br) (va:Value) (w:World) (hb:Bk w p 190 #[.map (some g),.map (some gj),va]) (hm:Bv w g (Cp l)) (hj:Bv w gj J) (hJ:∃ D:List Ab,D.Perm l/\Fs l D J)
  (hnd:(l.map Ab.name).Nodup) (hlen:l.length<=400) (hat:∀ n∈l,n.At w) (hstr:∀ n∈l,n.strokes.length<=65536) :
  Calls Tryz.prog 88 #[.pointer (some ⟨p,0,none⟩)] w (EventsP l w):=by
 have hB0:Below w.heap.size w (w.alloc (.cells #[.slice none 0 0] 42)):=Ba;obtain ⟨w1,hrun,R0,hb1⟩:=range_start und123 (hm.below hB0);have hglt:=hm.lt;have e2:(w.alloc (.cells #[.slice none 0 0] 42)).heap.size=w.heap.size+1:=by simp
 rw [e2] at hrun R0;have S0:EvI w g (Cp l) (Cp []) [] none 0 w1:=⟨R0,hB0.trans (hb1.mono hB0.size),(Aa (w:=w) (t:=42) (cs:=#[.slice none 0 0]) rfl).keep hb1,World.ownsRow_nil _ _ _ _,(fun n hn=>by cases hn)⟩
 have hp0:=hb.cell 0;have hp1:=(hb.alloc (.cells #[.slice none 0 0] 42)).cell 0;simp at hp0 hp1;have HP:=Hd (Ai hb (Ai hm (Ai hj (Ai hnd (Ai hat hstr)))));have HJ:=Hd hJ;have hplt:=hb.lt;clear hm hnd hB0 R0 hb1 e2 hb hj hJ hat hstr;go_enter Tryz.func88,Tryz.ntmps88;go_upto_region 3 with fail
 clear hrun hp0 hp1;go_loopw [13] (fun _ wr=>∃ (Dn L:List Ab) (A:Option Addr) (c:Nat),EvI w g (Cp l) (Cp Dn) L A c wr/\(∀ n∈Dn,n∈l)/\Hid (Hv l Dn L)) (fun _ wr=>Ch wr (w.heap.size+1))
 case atStart=>exact ⟨[],[],none,0,S0,by simp,Hd (Hv.nil l)⟩
 case round =>
  clear S0;obtain ⟨Dn,L,A,c,S,hsub,HM⟩:=hrel;rcases range_next S.rg (by omega) with ⟨hperm,hnx⟩ | ⟨kk,v,w2,hmem,hnx,R2,hb2,far2,hent⟩
  ·have HS:=Hd S;have hpl:=hperm.length_eq;have HPL:Hid (Dn.Perm l):=by
    refine Hd ?_;have h2:=hperm.map Prod.fst;rw [setFn_keys,setFn_keys] at h2;refine (List.perm_ext_iff_of_nodup ?_ ?_).2 ?_
    ·have:=h2.nodup_iff.2 HP.out.2.2.2.1;exact nodup_map this
    ·exact nodup_map HP.out.2.2.2.1
    ·intro n;refine ⟨hsub n,fun hn=>?_⟩
     have h3:(n.name,Value.agg n.arr)∈Cp Dn:=hperm.mem_iff.2 (List.mem_map.2 ⟨n,hn,rfl⟩);obtain ⟨m,hm1,hm2⟩:=List.mem_map.1 h3;injection hm2 with hm2 _
     have:=Ke HP.out.2.2.2.1 (hsub m hm1) hn hm2
     rwa [<- this]
   have hLl:L.length<=l.length:=Nat.le_trans HM.out.len (by rw [HPL.out.length_eq];exact Nat.le_refl _)
   have HSO:=Hd (sortNotes_any L A c (w.heap.size+2) wr S.ow (by omega))
   have bx0:=S.bx.cell 0;simp at bx0;clear S hperm hsub hpl;go_wp2_with (go_at_call 135;refine HSO.out.mono ?_;rintro e wz ⟨rfl,L',hpp,hss,hown,hgg⟩);go_ret;have h1:=HS.out.ends hpp hown hgg;have h2:=HM.out.sorted HPL.out HP.out.2.2.2.1 hpp hss;exact ⟨L',A,c,h1.1,h1.2.1,h1.2.2.1,h1.2.2.2.1,h1.2.2.2.2,by rw [hpp.length_eq];exact hLl,h2.1,h2.2,rfl⟩
  ·obtain ⟨n,hn,hkv⟩:=List.mem_map.1 hmem;injection hkv with hk1 hv1
   obtain ⟨k1,k2⟩:=kk;have e1:=S.rg.rest;have e2:=R2.rest;have hrest:Ch w2 (w.heap.size+1)<Ch wr (w.heap.size+1):=by rw [List.length_append] at e2;simp at e2;omega
   unfold Ab.name at hk1;injection hk1 with h1 h2
   subst h1;subst h2;subst hv1;have S2:=S.step R2 hb2 far2;rw [show Cp Dn ++ [((n.house,n.num),Value.agg n.arr)]=Cp (Dn ++ [n]) by simp [Cp,Ab.name]] at S2
   have hsub2:∀ x∈Dn ++ [n],x∈l:=fun x hx=>by
    rcases List.mem_append.1 hx with hx | hx
    ·exact hsub x hx
    ·simp at hx;rw [hx];exact hn
   obtain ⟨q,hq⟩:∃ q,w2.heap.size=q:=⟨_,rfl⟩;have hq1:(w2.alloc (.cells #[.int .i64 n.house,.int .i64 n.num] 66)).heap.size=q+1:=by simp [hq]
   have HQO:Hid (∀ b,(Value.slice A L.length c).ownBlock=some b->b<q):=Hd fun b hbq=>by rw [<- hq];exact (S2.ow.lt b hbq).2
   have s1:=Be (ty:=68) (cs:=n.arr) (Aa (t:=68) (cs:=z68) hq1) (by kernel_rfl) rfl (Eb _)
   have Y:Bk (((w2.alloc (.cells #[.int .i64 n.house,.int .i64 n.num] 66)).alloc (.cells z68 68)).setRow (q+1) n.arr) (q+1) 68 n.arr:=Bj (Aa hq1) _;have N:Bk (((w2.alloc (.cells #[.int .i64 n.house,.int .i64 n.num] 66)).alloc (.cells z68 68)).setRow (q+1) n.arr) q 66 #[.int .i64 n.house,.int .i64 n.num]:=((Aa hq).alloc _).farRow (by omega) _
   have hB3:Below w2.heap.size w2 (((w2.alloc (.cells #[.int .i64 n.house,.int .i64 n.num] 66)).alloc (.cells z68 68)).setRow (q+1) n.arr):=Aq (Ba.alloc (by simp) _) (by omega) _
   have S3:=S2.below hB3;have HREST:Hid (Ch (((w2.alloc (.cells #[.int .i64 n.house,.int .i64 n.num] 66)).alloc (.cells z68 68)).setRow (q+1) n.arr) (w.heap.size+1)<Ch wr (w.heap.size+1)):=by
    have e3:=S3.rg.rest;have e4:=S2.rg.rest;exact Hd (by omega)
   have HK:=Hd (Ai Y (Ai N S3));have hqB:w.heap.size+2<=q:=by have:=S2.rg.lt.1;omega
   have HLEN:Hid (L.length+1<=400):=by
    refine Hd ?_;have h5:=S3.rg.rest;have h6:=HM.out.len;simp only [Cp,List.length_map,List.length_append,List.length_singleton] at h5;omega
   clear S R2 hb2 far2 S2 S3 Y N hB3 e1 e2 hrest hmem;go_upto_region 5 with fail
   clear s1 hnx hent hq hq1;generalize ((w2.alloc _).alloc _).setRow _ _=V at *;obtain ⟨D0,hD0,hJ0⟩:=HJ.out;obtain ⟨o,ho1,ho2,ho3⟩:=judge_look hD0 hJ0 HP.out.2.2.2.1 hn;have HO:=Hd (Ai ho2 ho3);have hqr:q+1<V.heap.size:=HK.out.1.lt;have hBV:=HK.out.2.2.bl;have x0:=HK.out.2.1.cell 0;have x1:=HK.out.2.1.cell 1;have b1:=(HP.out.1.keep hBV).cell 1;have hBa:Below V.heap.size V ((V.alloc (.cells z68 68)).drew):=Ba.drew;have x0b:=(HK.out.2.1.keep hBa).cell 0;have x1b:=(HK.out.2.1.keep hBa).cell 1;have b1b:=((HP.out.1.keep hBV).keep hBa).cell 1;simp at x0 x1 b1 x0b x1b b1b;have lka:=look123 und122 (show Bv V.drew gj J from (HP.out.2.2.1.below hBV).drew) n.house n.num
   have lkb:=look123 und122 ((HP.out.2.2.1.below hBV).below hBa) n.house n.num;rw [show Ha J (n.house,n.num)=_ from ho1,look_got,Option.isSome_map] at lka lkb
   have s3:=Be (ty:=68) (cs:=(o.getD Bq).arr) (show Bk ((V.alloc (.cells z68 68)).drew) V.heap.size 68 z68 from Bk.drew (Aa rfl)) (by kernel_rfl) rfl (Eb _)
   have hB9:Below V.heap.size V (((V.alloc (.cells z68 68)).drew).setRow V.heap.size (o.getD Bq).arr):=Aq hBa (by omega) _
   have HB:=Hd (show Bk (((V.alloc (.cells z68 68)).drew).setRow V.heap.size (o.getD Bq).arr) (q+1) 68 n.arr/\Bk (((V.alloc (.cells z68 68)).drew).setRow V.heap.size (o.getD Bq).arr) V.heap.size 68 (o.getD Bq).arr/\EvI w g (Cp l) (Cp (Dn ++ [n])) L A c (((V.alloc (.cells z68 68)).drew).setRow V.heap.size (o.getD Bq).arr) from ⟨HK.out.1.keep hB9,Bj (show Bk ((V.alloc (.cells z68 68)).drew) V.heap.size 68 z68 from Bk.drew (Aa rfl)) _,HK.out.2.2.below hB9⟩)
   clear hBV hBa hB9 ho1 ho2 ho3 hJ0 hD0;obtain ⟨j,hj⟩:∃ j,o.getD Bq=j:=⟨_,rfl⟩;obtain ⟨bo,hbo⟩:∃ bo,o.isSome=bo:=⟨_,rfl⟩;rw [hj] at lka lkb s3 HB;rw [hbo] at lka lkb;have HJO:=Hd (Ai hj hbo);clear hj hbo;go_region;generalize World.setRow _ V.heap.size _=w10 at *;generalize V.heap.size=r at *;clear s3 lka lkb x0 x1 x0b x1b b1 b1b;have HREST2:Hid (Ch w10 (w.heap.size+1)<Ch wr (w.heap.size+1)):=by
    have e1:=HK.out.2.2.rg.rest;have e2:=HB.out.2.2.rg.rest;have:=HREST.out;exact Hd (by omega)
   clear HREST HK;have HD:=Hd (done_any n w10);rw [show inB n.kind 1 4=Gw n from rfl] at HD
   have ln:=Ah n HB.out.1;cases hd:Gw n with
   | false =>
    rw [hd] at HD;have HEF:Hid (eff l n=none):=Hd (by unfold eff;rw [hd];rfl)
    clear hd;go_wp2_with (go_at_call 71;refine HD.out.mono ?_;rintro e w3 ⟨rfl,hb3⟩;have HS4:=Hd (HB.out.2.2.below hb3);clear ln HD);go_roundw
    case rel=>exact ⟨Dn ++ [n],L,A,c,HS4.out,hsub2,Hd (HM.out.skip HEF.out)⟩
    case measure =>
     have e1:=HB.out.2.2.rg.rest;have e2:=HS4.out.rg.rest;have:=HREST2.out;omega
   | true =>
    rw [hd] at HD;have HDD:=Hd hd;clear hd;go_upto_region 7 with (go_at_call 71;refine HD.out.mono ?_;rintro e w3 ⟨rfl,hb3⟩;have HS4:=Hd (Ai (HB.out.1.keep hb3) (Ai (HB.out.2.1.keep hb3) (HB.out.2.2.below hb3)));clear ln HD)
    have HREST3:Hid (Ch w3 (w.heap.size+1)<Ch wr (w.heap.size+1)):=by
     have e1:=HB.out.2.2.rg.rest;have e2:=HS4.out.2.2.rg.rest;have:=HREST2.out;exact Hd (by omega)
    have HB:=HS4;clear HS4 HREST2 hb3;have x4:=HB.out.2.1.cell 4;simp [Ab.arr] at x4;cases bo with
    | false =>
     have HEF:Hid (∃ m,eff l n=some m/\n.plain=m.plain):=Hd (by
      have h1:o=none:=by
       have:=HJO.out.2
       simpa using this
      have h2:=HO.out.2 HDD.out;refine ⟨n,?_,rfl⟩;unfold eff;rw [HDD.out,<- h2,h1];rfl)
     have HXA:Hid (n.At w3.drew/\n.strokes.length<=65536):=Hd ⟨(HP.out.2.2.2.2.1 n hn).below HB.out.2.2.bl.drew,HP.out.2.2.2.2.2 n hn⟩;have HB2:Hid (Bk w3 (q+1) 68 n.arr/\EvI w g (Cp l) (Cp (Dn ++ [n])) L A c w3):=Hd ⟨HB.out.1,HB.out.2.2⟩;clear HB;have HB:=HB2;clear HB2;go_upto_region 10 with fail
     have HU:=Hd (show Bk w3.drew (q+1) 68 n.arr/\EvI w g (Cp l) (Cp (Dn ++ [n])) L A c w3.drew from ⟨HB.out.1.drew,HB.out.2.drew⟩)
     have ln1:=Ah n HU.out.1;have c1:=HU.out.2.bx.cell 0;simp at c1;have HNN:=Hd (copied_any n w3.drew HXA.out.1 HXA.out.2);obtain ⟨i0,hi0,hz0,hz1,hz2⟩:=info_parts info68n;clear HB x4;go_region_law (first
      | (go_simp;go_at_call 134;refine HNN.out.mono ?_;rintro e w5 ⟨⟨x',hpl,hat,hbd,hty,rfl⟩,hb5⟩;dsimp only;have bs5:=build42 x' w5;have HX5:=Hd (Ai hpl (Ai hat hty));clear hpl hat hbd hty;have ln2:=Ah n (HU.out.1.keep hb5);have ln3:=Ah n ((HU.out.1.keep hb5).alloc (.cells x'.arr 68));have c2:=(HU.out.2.below hb5).bx.cell 0;have c3:=((HU.out.2.below hb5).bx.alloc (.cells x'.arr 68)).cell 0;simp at c2 c3)
      | (have hxs:=(HU.out.2.below hb5).ow;refine Dq rfl _ _ 42 rfl (w.heap.size+2) 68 i0 _ 19 168 Tryz.underlying42 hi0 hz0 hz1 hz2 rfl (by decide) (.slice A L.length c) L.length (Aw L) rfl (hxs.alloc (.cells x'.arr 68)) ⟨w5.heap.size,0,none⟩ 1 1 x'.arr.toList rfl rfl (note_block (Aa rfl)) (arr_ones x') (by have:=HLEN.out;unfold maxLen;omega) (by have:=HLEN.out;omega) (by have h1:=(HU.out.2.below hb5).rg.lt.1;simp;omega) ?_;intro v6 w6 hown6 hg6;obtain ⟨A6,c6,rfl,_,_,_⟩:=Au hown6;have N7:=((HU.out.1.keep hb5).alloc (.cells x'.arr 68)).grown hg6 (fun e=>by have:=HQO.out _ e.symm;omega);have B7:=((HU.out.2.below hb5).bx.alloc (.cells x'.arr 68)).grown hg6 (own_ne hxs (by omega));have c4:=B7.cell 0;have f4:=B7.fz 0;have l4:=B7.lt;have ln4:=Ah n N7;have ln5:=Ah n (N7.far (p:=⟨w.heap.size,0,none⟩) (by simp;omega) (.slice A6 (L.length+1) c6));simp at c4;have HEND:=Hd (Ai hxs (Ai hown6 hg6));clear N7 B7 hown6 hg6 hxs))
     all_goals
      obtain ⟨hxs,hown6,hg6⟩:=HEND.out;obtain ⟨hpl,hat,hty⟩:=HX5.out;have hBx:Below w5.heap.size w5 (w5.alloc (.cells x'.arr 68)):=(Below.refl w5.heap.size w5).alloc Le (.cells x'.arr 68);have S7:=((HU.out.2.below hb5).below hBx).push ⟨hat.below hBx,StrT.below hty hBx⟩ hown6 hg6;have HR7:Hid (Ch (w6.setCell ⟨w.heap.size,0,none⟩ (.slice A6 (L.length+1) c6)) (w.heap.size+1)<Ch wr (w.heap.size+1)):=by
       have e1:=HU.out.2.rg.rest;have e2:=S7.rg.rest;have:Ch w3 (w.heap.size+1)<Ch wr (w.heap.size+1):=HREST3.out;have:Ch w3.drew (w.heap.size+1)<Ch wr (w.heap.size+1):=this;exact Hd (by omega)
      obtain ⟨m,hm1,hm2⟩:=HEF.out;have HM7:=Hd (HM.out.push hm1 (hpl.trans hm2));have HS7:=Hd S7;clear S7 hxs hown6 hg6 HEND c4 f4 l4 ln1 ln2 ln3 ln4 ln5 c1 c2 c3 HU HNN hi0 hz0 hz1 hz2 hb5 HREST3 hpl hat hty hBx hm1 hm2 HX5 bs5;generalize w6.setCell _ _=U7 at *;go_wp2_with fail;go_roundw
      case rel=>exact ⟨Dn ++ [n],L ++ [x'],A6,c6,HS7.out,hsub2,HM7⟩
      case measure=>exact HR7.out
    | true =>
     have HOJ:Hid (o=some j):=Hd (by
      have h1:=HJO.out;cases o with
      | none=>simp at h1
      | some j' =>
       have:=h1.1;simp at this;rw [this])
     by_cases h6:j.kind=6
     ·have b6:(j.kind == 6)=true:=by simpa using h6
      have HEF:Hid (eff l n=none):=Hd (by
       have h2:=HO.out.2 HDD.out;unfold eff;rw [HDD.out,<- h2,HOJ.out];simp [effOf,h6])
      clear h6;go_wp2_with fail;go_roundw
      case rel=>exact ⟨Dn ++ [n],L,A,c,HB.out.2.2,hsub2,Hd (HM.out.skip HEF.out)⟩
      case measure=>exact HREST3.out
     ·have b6:(j.kind == 6)=false:=by simpa using h6
      have HEFC:Hid (eff l n=some (Eq n j)):=Hd (by
       have h2:=HO.out.2 HDD.out;unfold eff;rw [HDD.out,<- h2,HOJ.out];simp [effOf,h6])
      have hjl:=HO.out.1 j HOJ.out;have HCN:=Hd (counts_any n j w3 ((HP.out.2.2.2.2.1 j hjl).below HB.out.2.2.bl) (HP.out.2.2.2.2.2 j hjl));have ln:=Ah n HB.out.1;have lj:=Ah j HB.out.2.1;clear h6 hjl;go_upto_region 10 with (go_at_call 133;refine HCN.out.mono ?_;rintro e w4 ⟨⟨n',hpl,hat,hfr,rfl⟩,hb4⟩;have s4:=Be (ty:=68) (cs:=n'.arr) (HB.out.1.keep hb4) (by kernel_rfl) rfl (Eb _);have HPL:=Hd (Ai hpl (Ai hat (Ai hfr hb4)));clear hpl hat hfr hb4 ln lj HCN)
      obtain ⟨hpl,hat,hfr,hb4⟩:=HPL.out;have hqw:=HB.out.1.lt;have hBs:Below w3.heap.size w3 (w4.setRow (q+1) n'.arr)->True:=fun _=>trivial
      have hS5:=(HB.out.2.2.below hb4).setRow (q:=q+1) (by omega) (fun b hbq=>by have:=HQO.out b hbq;omega) (HB.out.1.keep hb4) n'.arr
      have HB2:Hid (Bk (w4.setRow (q+1) n'.arr) (q+1) 68 n'.arr/\EvI w g (Cp l) (Cp (Dn ++ [n])) L A c (w4.setRow (q+1) n'.arr)):=Hd ⟨Bj (HB.out.1.keep hb4) _,hS5⟩;have HREST4:Hid (Ch (w4.setRow (q+1) n'.arr) (w.heap.size+1)<Ch wr (w.heap.size+1)):=by
       have e1:=HB.out.2.2.rg.rest;have e2:=hS5.rg.rest;have:=HREST3.out;exact Hd (by omega)
      have hst:n'.strokes.length<=65536:=by
       have h1:=congrArg Ab.strokes hpl;have h2:n'.strokes=(Eq n j).strokes:=h1;have h3:(Eq n j).strokes=j.strokes:=by unfold Eq;split<;>rfl
       rw [h2,h3];exact HP.out.2.2.2.2.2 j (HO.out.1 j HOJ.out)
      have HXA:Hid (n'.At (w4.setRow (q+1) n'.arr).drew/\n'.strokes.length<=65536):=Hd ⟨at_setRow hat (fun a ha=>by have:=hfr a ha;omega) _,hst⟩
      have HEF:Hid (∃ m,eff l n=some m/\n'.plain=m.plain):=Hd ⟨_,HEFC.out,hpl⟩;clear HB HREST3 hBs hS5 s4 hpl hat hfr hqw hb4 HPL hst;have HB:=HB2;have HREST3:=HREST4;clear HB2 HREST4;generalize w4.setRow _ _=w5' at *;go_upto_region 10 with fail
      have HU:=Hd (show Bk w5'.drew (q+1) 68 n'.arr/\EvI w g (Cp l) (Cp (Dn ++ [n])) L A c w5'.drew from ⟨HB.out.1.drew,HB.out.2.drew⟩)
      have ln1:=Ah n' HU.out.1;have c1:=HU.out.2.bx.cell 0;simp at c1;have HNN:=Hd (copied_any n' w5'.drew HXA.out.1 HXA.out.2);obtain ⟨i0,hi0,hz0,hz1,hz2⟩:=info_parts info68n;clear HB x4;go_region_law (first
       | (go_simp;go_at_call 134;refine HNN.out.mono ?_;rintro e w5 ⟨⟨x',hpl,hat,hbd,hty,rfl⟩,hb5⟩;dsimp only;have bs5:=build42 x' w5;have HX5:=Hd (Ai hpl (Ai hat hty));clear hpl hat hbd hty;have ln2:=Ah n' (HU.out.1.keep hb5);have ln3:=Ah n' ((HU.out.1.keep hb5).alloc (.cells x'.arr 68));have c2:=(HU.out.2.below hb5).bx.cell 0;have c3:=((HU.out.2.below hb5).bx.alloc (.cells x'.arr 68)).cell 0;simp at c2 c3)
       | (have hxs:=(HU.out.2.below hb5).ow;refine Dq rfl _ _ 42 rfl (w.heap.size+2) 68 i0 _ 19 168 Tryz.underlying42 hi0 hz0 hz1 hz2 rfl (by decide) (.slice A L.length c) L.length (Aw L) rfl (hxs.alloc (.cells x'.arr 68)) ⟨w5.heap.size,0,none⟩ 1 1 x'.arr.toList rfl rfl (note_block (Aa rfl)) (arr_ones x') (by have:=HLEN.out;unfold maxLen;omega) (by have:=HLEN.out;omega) (by have h1:=(HU.out.2.below hb5).rg.lt.1;simp;omega) ?_;intro v6 w6 hown6 hg6;obtain ⟨A6,c6,rfl,_,_,_⟩:=Au hown6;have N7:=((HU.out.1.keep hb5).alloc (.cells x'.arr 68)).grown hg6 (fun e=>by have:=HQO.out _ e.symm;omega);have B7:=((HU.out.2.below hb5).bx.alloc (.cells x'.arr 68)).grown hg6 (own_ne hxs (by omega));have c4:=B7.cell 0;have f4:=B7.fz 0;have l4:=B7.lt;have ln4:=Ah n' N7;have ln5:=Ah n' (N7.far (p:=⟨w.heap.size,0,none⟩) (by simp;omega) (.slice A6 (L.length+1) c6));simp at c4;have HEND:=Hd (Ai hxs (Ai hown6 hg6));clear N7 B7 hown6 hg6 hxs))
      all_goals
       obtain ⟨hxs,hown6,hg6⟩:=HEND.out;obtain ⟨hpl,hat,hty⟩:=HX5.out;have hBx:Below w5.heap.size w5 (w5.alloc (.cells x'.arr 68)):=(Below.refl w5.heap.size w5).alloc Le (.cells x'.arr 68);have S7:=((HU.out.2.below hb5).below hBx).push ⟨hat.below hBx,StrT.below hty hBx⟩ hown6 hg6;have HR7:Hid (Ch (w6.setCell ⟨w.heap.size,0,none⟩ (.slice A6 (L.length+1) c6)) (w.heap.size+1)<Ch wr (w.heap.size+1)):=by
        have e1:=HU.out.2.rg.rest;have e2:=S7.rg.rest;have:Ch w5' (w.heap.size+1)<Ch wr (w.heap.size+1):=HREST3.out;have:Ch w5'.drew (w.heap.size+1)<Ch wr (w.heap.size+1):=this;exact Hd (by omega)
       obtain ⟨m,hm1,hm2⟩:=HEF.out;have HM7:=Hd (HM.out.push hm1 (hpl.trans hm2));have HS7:=Hd S7;clear S7 hxs hown6 hg6 HEND c4 f4 l4 ln1 ln2 ln3 ln4 ln5 c1 c2 c3 HU HNN hi0 hz0 hz1 hz2 hb5 HREST3 hpl hat hty hBx hm1 hm2 HX5 bs5;generalize w6.setCell _ _=U7 at *;go_wp2_with fail;go_roundw
       case rel=>exact ⟨Dn ++ [n],L ++ [x'],A6,c6,HS7.out,hsub2,HM7⟩
       case measure=>exact HR7.out
end Go.Proofs.YteihcodicfoiaaaGreat
