/-
  What is proved: contracts and plain facts that TopForget stands on (EndsE, OpenG).
-/
import Derived.Test.YteihcodicfoiaaaGreat2Mf
import Derived.Test.YteihcodicfoiaaaGreat8Mf
import Derived.Test.YteihcodicfoiaaaGreatFewMf
namespace Go.Proofs.YteihcodicfoiaaaGreat
set_option maxRecDepth 100000
set_option maxHeartbeats 8000000
open Go Go.RowKit
section
open Go.RowKit Go.Shelf
attribute [local go_sem ↓] Ei Eh
attribute [local go_sem] Oper.semAt_some
def FreeF (f:Flr):Prop:=∀ m,m<f.S*f.S->Ko f (entN f m)
def EndsE (f:Flr) (w:World) (e:Ending) (w':World):Prop :=
 Below w.heap.size w w'/\((FreeF f/\e=.returned (.bool true))\/(¬ FreeF f/\e=.returned (.bool false)))
theorem ends_any (f:Flr) (z:Hc) (b Bs:Nat) (w:World) (hf:Hu w b f z) (hok:f.Ok) (h1:Bk w Bs 173 #[.pointer (some ⟨b,0,none⟩)]) :
  Calls Tryz.prog 102 #[.pointer (some ⟨b,0,none⟩),.func (.func 151) #[] #[.pointer (some ⟨Bs,0,none⟩)]] w (EndsE f w):=by
 obtain ⟨N,hN⟩:∃ N,N=f.R*f.S*f.S:=⟨_,rfl⟩;have HST:=Hd (fun (X:World) (h:Below w.heap.size w X)=>states_any b f z X (hf.below h) hok)
 rw [<- hN] at HST;have hNb:N<=256:=by rw [hN];exact Nat.mul_le_mul (Nat.mul_le_mul hok.r1 hok.s1) hok.s1
 have HLP:=Hd (fun (X:World) (gd i:Nat) (dn:List Bool) (hB:Below w.heap.size w X) (hgd:w.heap.size<=gd) (D:Bk X gd 4 (Dp dn).toArray) (hl:dn.length=N) (hacc:∀ k,dn.getD k false=true->Ko f k) (hi:i<N)=>loop_any f z b w.heap.size gd N i dn w X hf hok hN rfl hB hgd D hl hacc hi)
 have HEN:=Hd (fun (m:Fin (f.S*f.S))=>show entN f m.1<N by rw [hN];exact entN_lt hok m.2)
 have HES:=Hd (fun (U:World) (hU:Below w.heap.size w U) (Y:Bk U Bs 173 #[.pointer (some ⟨b,0,none⟩)])=>entries1_stops (3 - 1) w.heap.size b Bs f z w U hf hok rfl hU Y)
 obtain ⟨W,hW⟩:∃ W,(w.alloc (.cells #[.pointer (some ⟨b,0,none⟩)] 173)).alloc (.cells #[.bool false] 4)=W:=⟨_,rfl⟩;have hbW:Below w.heap.size w W:=by rw [<- hW];exact Ba.alloc (by simp) _
 have X0:Bk W w.heap.size 173 #[.pointer (some ⟨b,0,none⟩)]:=by rw [<- hW];exact (Aa rfl).alloc _
 have X1:Bk W (w.heap.size+1) 4 #[.bool false]:=by rw [<- hW];exact Aa (by simp)
 have x0:=X0.cell 0;simp at x0;have HW:=Hd hW;have HN:=Hd hN;clear hW hN;obtain ⟨j0,hj0,jz0,jz1,jz2⟩:=info_parts boolInfo;have bb2:j0.bytes*N<=281474976710656:=by rw [jz2];omega
 have bb3:N<=maxLen:=by unfold maxLen;omega
 refine (callsIn_wide (n:=3)).1 ?_;refine callsIn_of_wp_marks Tryz.func102 rfl trivial ?_ rfl;simp only [Tryz.ntmps102,List.size_toArray,List.length_cons,List.length_nil,Nat.reduceAdd,Nat.reduceSub,Array.replicate_succ,Array.replicate_zero,List.push_toArray,List.append_toArray,List.nil_append,List.cons_append];refine wpIn_wide.2 ?_;go_upto_region 1 with fail
 rw [HW.out];clear HW;go_wp2_with (first | (go_at_call 122;refine (HST.out W hbW).mono ?_;rintro e w1 ⟨rfl,hb1⟩) | (at_make;refine (wpList_make_full _ rfl _ _ 266 rfl w1.heap.size 4 j0 _ 1 Tryz.underlying266 hj0 jz0 jz1 .i64 .i64 _ _ N rfl rfl rfl rfl bb2 bb3 Le ?_);intro w2 hown hgr))
 rw [made_bools] at hown;have R2:=own_full hown;have hb1w:=hbW.trans (hb1.mono hbW.size);have hb2:Below w1.heap.size w1 w2:=⟨hgr.os,hgr.tape,hgr.output,hgr.size,fun k hk=>hgr.block k hk (by simp)⟩
 have hb2w:=hb1w.trans (hb2.mono hb1w.size);have Z0:=(X0.keep hb1).keep hb2;have Z1:=(X1.keep hb1).keep hb2;have hz1:w.heap.size<=w1.heap.size:=hb1w.size;have hz2:w1.heap.size<w2.heap.size:=R2.lt;have hz3:w.heap.size+1<w1.heap.size:=(X1.keep hb1).lt;obtain ⟨gd,hgd⟩:∃ g,w1.heap.size=g:=⟨_,rfl⟩;obtain ⟨qd,hqd⟩:∃ q,w2.heap.size=q:=⟨_,rfl⟩;have Y1:=h1.keep hb2w;rw [hgd] at R2 hz1 hz2 hz3;rw [hqd] at hz2;rw [hgd,hqd];obtain ⟨U,hU⟩:∃ U,w2.alloc (.cells #[.slice (some ⟨gd,0,none⟩) N N] 266)=U:=⟨_,rfl⟩;rw [hU];have hbU:Below w2.heap.size w2 U:=by rw [<- hU];exact Ba
 have Qd:Bk U qd 266 #[.slice (some ⟨gd,0,none⟩) N N]:=by rw [<- hU];exact Aa hqd
 replace Z0:=Z0.keep hbU;replace Z1:=Z1.keep hbU;replace R2:=R2.keep hbU;replace Y1:=Y1.keep hbU;have hBU:=hb2w.trans (hbU.mono hb2w.size);clear hU hbU hb2w hb2 hb1w hb1 hown hgr hgd hqd X0 X1 x0 h1 hbW HST;have hqU:=Qd.lt;have hU0:=hBU.size;refine (wpIn_wide (n:=3)).1 ?_;refine wpIn_rangeFunc_ownH rfl (by omega) (gf:=151) (lb:=#[.pointer (some ⟨Bs,0,none⟩)]) rfl trivial (enters_of Tryz.func151 (by kernel_rfl) rfl)
  (encs:=entEnc f) (Kp:=KpS w.heap.size) (S:=fun xs=>xs=List.finRange (f.S*f.S)) (Sp:=fun pre=>pre <+: List.finRange (f.S*f.S)) (N:=f.S*f.S) (w0:=U)
  (HES.out U hBU Y1)
  ?k1 ?k2 (Below.refl _ _) (fun _=>rfl)
  (fun pre W'=>Below w.heap.size w W'/\Bk W' w.heap.size 173 #[.pointer (some ⟨b,0,none⟩)]/\Bk W' (w.heap.size+1) 4 #[.bool false]/\Bk W' qd 266 #[.slice (some ⟨gd,0,none⟩) N N]/\(∃ dn,dn.length=N/\Bk W' gd 4 (Dp dn).toArray/\∀ k,dn.getD k false=true->Ko f k)/\(∀ m∈pre,Ko f (entN f m.1)))
  (fun c _ W'=>c=.ret/\¬ FreeF f/\Below w.heap.size w W'/\Bk W' (w.heap.size+1) 4 #[.bool false])
  ?I ?Ix ⟨hBU,Z0,Z1,Qd,⟨_,by simp,R2,fun k hk=>by
   rw [List.getD_eq_getElem?_getD,List.getElem?_replicate] at hk
   split at hk<;>simp at hk⟩,fun m h=>by cases h⟩
  (fun x a' _=>a' = { tmps:=#[.pointer (some ⟨b,0,none⟩),.func (.func 151) #[] #[.pointer (some ⟨Bs,0,none⟩)],.pointer (some ⟨w.heap.size,0,none⟩),undef,.pointer (some ⟨w.heap.size+1,0,none⟩),.pointer (some ⟨qd,0,none⟩),.int .i64 (entN f x.1),.pointer (some ⟨b,0,none⟩),.int .i64 N,.slice (some ⟨gd,0,none⟩) N N,.func (.func 151) #[] #[.pointer (some ⟨Bs,0,none⟩)],.int .i64 (entN f x.1),undef,undef,undef,undef,undef],defers:=[] })
  ?Ax ?assign ?body ?done ?stop
 case k1=>exact fun h k=>h.trans k
 case k2 =>
  intro X l o o' hl hX hc _;refine ⟨belowK_b hU0 X l o o' hl hX hc ‹_›,fun k cs t r _ hk=>?_⟩
  by_cases e:k=l
  ·subst e;rw [hk] at hX;cases hX;cases hc
  ·exact (World.putObj_heap_other e).trans hk
 case I =>
  rintro pre X X' row ⟨a1,a2,a3,a4,⟨dn,d1,d2,d3⟩,a6⟩ hg hr;refine ⟨a1.grown hg a1.size (fun r e=>by have:=(hr r e).1;omega),a2.grown hg (fun e=>?_),a3.grown hg (fun e=>?_),a4.grown hg (fun e=>?_),⟨dn,d1,d2.grown hg (fun e=>?_),d3⟩,a6⟩
  all_goals (have:=(hr _ e.symm).1;omega)
 case Ix =>
  rintro c pre X X' row ⟨a0,a1,a2,a3⟩ hg hr;exact ⟨a0,a1,a2.grown hg a2.size (fun r e=>by have:=(hr r e).1;omega),a3.grown hg (fun e=>by have:=(hr _ e.symm).1;omega)⟩
 case Ax=>exact fun _ _ _ _ _ _ h _ _=>h
 case assign =>
  rintro l pre x X K h hK;unfold entEnc;gi_wp2;exact hK _ _ (KeepsFrom.refl _ _) ⟨Below.refl _ _,fun _ _ _ _ _ h=>h⟩ h rfl
 case body =>
  rintro l pre x a' X hlz hrec ⟨a1,a2,a3,a4,⟨dn,d1,d2,d3⟩,a6⟩ rfl hlt;have HL:=Hd (HLP.out X gd (entN f x.1) dn a1 hz1 d2 d1 d3 (HEN.out x));have hnn:=fun (W:World)=>run_neq_slice_nil_any (P:=Tryz.prog) W 155 247 none 0 0 0 0 Tryz.underlying155
  have hns:=fun (W:World) (a:Addr) (k c:Nat)=>run_neq_slice_nil_any (P:=Tryz.prog) W 155 247 (some a) k c 0 0 Tryz.underlying155
  have y0:=a2.cell 0;have y1:=a4.cell 0;simp at y0 y1;have HA:=Hd (Ai a1 (Ai a2 (Ai a3 (Ai a4 a6))));clear a1 a2 a3 a4 a6 d1 d2 d3 hrec HLP Y1 Z0 Z1 R2 Qd hBU HES;gi_wp2;refine ⟨trivial,(CallsIn.inRound l (callsIn_wide.2 HL.out)).mono ?_⟩;rintro e X2 ⟨c1,c2,bk,c3,c4⟩;obtain ⟨a1,a2,a3,a4,a6⟩:=HA.out;have b1:=a1.trans c1;have b2:=c3 _ _ _ a2 (by omega) (by decide)
  have b3:=c3 _ _ _ a3 (by omega) (by decide)
  have b4:=c3 _ _ _ a4 (by omega) (by decide)
  have z0:=b3.cell 0;have z1:=b3.fz 0;have z2:=b3.lt;simp at z0;have HB:=Hd (Ai b1 (Ai b2 (Ai b3 (Ai b4 bk))));clear a1 a2 a3 a4 c1 c3 b1 b2 b3 b4 bk;rcases c4 with ⟨ak,rfl,dn',d1,d2,d3⟩ | ⟨na,ap,kp,cp,rfl⟩
  ·have HD:=Hd (Ai d1 (Ai d2 d3));clear d1 d2 d3;gi_wp2;obtain ⟨b1,b2,b3,b4,bk⟩:=HB.out;exact ⟨c2.from _,bk,b1,b2,b3,b4,⟨dn',by rw [HD.out.1];exact HN.out.symm,HD.out.2⟩,fun m hm=>by
    rcases List.mem_append.1 hm with h | h
    ·exact a6 m h
    ·rw [List.mem_singleton.1 h];exact ak⟩
  ·gi_wp2;obtain ⟨b1,b2,b3,b4,bk⟩:=HB.out;exact ⟨(c2.trans (KeepsOthers.setCell _ _ _)).from _,rfl,fun h=>na (h x.1 x.2),b1.setCell (by simp) _,by simpa using b3.put 0 (.bool false)⟩
 case done =>
  rintro D xs X hD rfl ⟨a1,a2,a3,a4,_,a6⟩ hK;have ak:FreeF f:=fun m hm=>a6 ⟨m,hm⟩ (List.mem_finRange _)
  have y0:=a3.cell 0;have y1:=a3.fz 0;have y2:=a3.lt;simp at y0;have HA:=Hd (Ai a1 (Ai a3 hK));clear a1 a2 a3 a4 a6 hK HLP Y1 Z0 Z1 R2 Qd hBU HES;gi_wp2;go_wp2_with fail;obtain ⟨a1,a3,hK⟩:=HA.out;have b1:=a1.setCell (p:=⟨w.heap.size+1,0,none⟩) (by simp) (.bool true)
  have b3:=a3.put 0 (.bool true);have hK':(X.setCell ⟨w.heap.size+1,0,none⟩ (.bool true)).heap[D]?=some (.deferred (some [])):=(Below.heap_setCell _ ⟨w.heap.size+1,0,none⟩ _ _ (by simp;omega)).trans hK
  generalize X.setCell ⟨w.heap.size + 1,0,none⟩ (.bool true)=F at *;have d2:Bk (F.putObj D (.deferred none)) (w.heap.size+1) 4 _:=(World.putObj_heap_other (by omega)).trans b3
  have e2:=d2.cell 0;simp at e2;refine ⟨by simp,.inl ⟨_,_,rfl,run_takeDeferred hK',?_⟩⟩
  exact ⟨.bool true,by simp [results,Tryz.results102,go_sem,e2],b1.grown (grownBy_putObj' _ _ _) b1.size (fun r e=>by injection e with e;omega),.inl ⟨ak,rfl⟩⟩
 case stop =>
  rintro D c pre X hD hp ⟨rfl,na,a2,a3⟩ hK;gi_wp2;have d2:Bk (X.putObj D (.deferred none)) (w.heap.size+1) 4 _:=(World.putObj_heap_other (by omega)).trans a3
  have e2:=d2.cell 0;simp at e2;refine ⟨by simp,.inl ⟨_,_,rfl,run_takeDeferred hK,?_⟩⟩
  exact ⟨.bool false,by simp [results,Tryz.results102,go_sem,e2],a2.grown (grownBy_putObj' _ _ _) a2.size (fun r e=>by injection e with e;omega),.inr ⟨na,rfl⟩⟩
end
section
attribute [local go_sem ↓] Ei Eh
def facesOk (b r:Fac):Bool:=b.ok && r.ok && (b.eye == r.eye && b.rings == r.rings && b.sec == r.sec)
theorem open_bad (b r:Fac) (A1 A2 A3:Option Addr) (c1 c2 n3 c3:Nat) (w:World) (h1:Ad w A1 (Ac b.kinds)) (h2:Ad w A2 (Ac r.kinds)) (l1:b.kinds.length<=9223372036854775807) (l2:r.kinds.length<=9223372036854775807) (hbad:facesOk b r=false) :
  Calls Tryz.prog 78 #[.agg #[.int .i64 b.eye,.int .i64 b.rings,.int .i64 b.sec,.slice A1 b.kinds.length c1,.int .i64 r.eye,.int .i64 r.rings,.int .i64 r.sec,.slice A2 r.kinds.length c2,.slice A3 n3 c3]] w fun e w'=>e=.returned (.tuple #[.pointer none,.int .i64 20])/\Below w.heap.size w w':=by
 have HV1:=Hd (fun (X:World) (h:Below w.heap.size w X)=>Jh b A1 c1 X (h1.below h) l1)
 have HV2:=Hd (fun (X:World) (h:Below w.heap.size w X)=>Jh r A2 c2 X (h2.below h) l2)
 unfold Fac.val at HV1 HV2;have HBAD:=Hd hbad;clear h1 h2 hbad;obtain ⟨W,hW⟩:∃ W,w.alloc (.cells #[.int .i64 b.eye,.int .i64 b.rings,.int .i64 b.sec,.slice A1 b.kinds.length c1,.int .i64 r.eye,.int .i64 r.rings,.int .i64 r.sec,.slice A2 r.kinds.length c2,.slice A3 n3 c3] 27)=W:=⟨_,rfl⟩;have hbW:Below w.heap.size w W:=by rw [<- hW];exact Ba
 have X:=(show Bk W w.heap.size 27 #[.int .i64 b.eye,.int .i64 b.rings,.int .i64 b.sec,.slice A1 b.kinds.length c1,.int .i64 r.eye,.int .i64 r.rings,.int .i64 r.sec,.slice A2 r.kinds.length c2,.slice A3 n3 c3] by rw [<- hW];exact Aa rfl)
 have hsW:W.heap.size=w.heap.size+1:=by rw [<- hW];simp
 have x0:=X.cell 0;have x1:=X.cell 1;have x2:=X.cell 2;have x3:=X.cell 3;have x4:=X.cell 4;have x5:=X.cell 5;have x6:=X.cell 6;have x7:=X.cell 7;have x8:=X.cell 8;simp at x0 x1 x2 x3 x4 x5 x6 x7 x8;have HW:=Hd hW;clear hW;have hlt:=X.lt;go_enter Tryz.func78,Tryz.ntmps78;go_upto_region 1 with fail
 rw [HW.out];clear HW;go_cut [4,5] from 9 to 12 (fun vb vr wx=>∃ p q:Nat,vb=.pointer (some ⟨p,0,none⟩)/\vr=.pointer (some ⟨q,0,none⟩)/\Bk wx w.heap.size 27 #[.int .i64 b.eye,.int .i64 b.rings,.int .i64 b.sec,.slice A1 b.kinds.length c1,.int .i64 r.eye,.int .i64 r.rings,.int .i64 r.sec,.slice A2 r.kinds.length c2,.slice A3 n3 c3] /\
  Bk wx p 24 #[.int .i64 b.eye,.int .i64 b.rings,.int .i64 b.sec,.slice A1 b.kinds.length c1]/\Bk wx q 24 #[.int .i64 r.eye,.int .i64 r.rings,.int .i64 r.sec,.slice A2 r.kinds.length c2]/\Below w.heap.size w wx)
 case first =>
  have HX:=Hd X;have HB:=Hd hbW;clear X hsW hbW HBAD HV1 HV2;go_region
  all_goals
   go_wp2_with fail;go_meet
   case rel =>
    have X:=HX.out;have hb:=HB.out
    first
    | exact ⟨_,_,rfl,rfl,((X.alloc _).alloc _).drew,(Bk.new _ _ _).drew,((Aa rfl).alloc _).drew,((hb.alloc hb.size _).alloc (by have:=hb.size;simp;omega) _).drew⟩
    | exact ⟨_,_,rfl,rfl,((X.alloc _).alloc _).drew,((Aa rfl).alloc _).drew,(Aa (by simp)).drew,((hb.alloc hb.size _).alloc (by have:=hb.size;simp;omega) _).drew⟩
    | exact ⟨_,_,rfl,rfl,((X.alloc _).alloc _).drew,(Aa (by simp)).drew,((Aa rfl).alloc _).drew,((hb.alloc hb.size _).alloc (by have:=hb.size;simp;omega) _).drew⟩
 case rest =>
  obtain ⟨p,q,rfl,rfl,X1,P1,Q1,hb1⟩:=hcut;clear x0 x1 x2 x3 x4 x5 x6 x7 x8 X hsW hlt;have x0:=X1.cell 0;have x1:=X1.cell 1;have x2:=X1.cell 2;have x3:=X1.cell 3;have x4:=X1.cell 4;have x5:=X1.cell 5;have x6:=X1.cell 6;have x7:=X1.cell 7;have x8:=X1.cell 8;have p0:=P1.cell 0;have p1:=P1.cell 1;have p2:=P1.cell 2;have p3:=P1.cell 3;simp at x0 x1 x2 x3 x4 x5 x6 x7 x8 p0 p1 p2 p3;go_upto_region 3 with fail
  clear x0 x1 x2 x3 x4 x5 x6 x7 p0 p1 p2 p3 x8;generalize hgg:wc.heap.size=g at *;have F0:Bk (wc.alloc (.cells #[.int .i64 b.eye,.int .i64 b.rings,.int .i64 b.sec,.slice A1 b.kinds.length c1,.int .i64 r.eye,.int .i64 r.rings,.int .i64 r.sec,.slice A2 r.kinds.length c2,.slice A3 n3 c3,.int .i64 b.rings,.int .i64 b.sec,.slice none 0 0,.slice none 0 0,.slice none 0 0,.slice none 0 0,.slice none 0 0,.slice none 0 0,.slice none 0 0,.slice none 0 0,.slice none 0 0] 181)) g 181 _:=Aa hgg;replace X1:=X1.alloc (.cells #[.int .i64 b.eye,.int .i64 b.rings,.int .i64 b.sec,.slice A1 b.kinds.length c1,.int .i64 r.eye,.int .i64 r.rings,.int .i64 r.sec,.slice A2 r.kinds.length c2,.slice A3 n3 c3,.int .i64 b.rings,.int .i64 b.sec,.slice none 0 0,.slice none 0 0,.slice none 0 0,.slice none 0 0,.slice none 0 0,.slice none 0 0,.slice none 0 0,.slice none 0 0,.slice none 0 0] 181);replace P1:=P1.alloc (.cells #[.int .i64 b.eye,.int .i64 b.rings,.int .i64 b.sec,.slice A1 b.kinds.length c1,.int .i64 r.eye,.int .i64 r.rings,.int .i64 r.sec,.slice A2 r.kinds.length c2,.slice A3 n3 c3,.int .i64 b.rings,.int .i64 b.sec,.slice none 0 0,.slice none 0 0,.slice none 0 0,.slice none 0 0,.slice none 0 0,.slice none 0 0,.slice none 0 0,.slice none 0 0,.slice none 0 0] 181);replace Q1:=Q1.alloc (.cells #[.int .i64 b.eye,.int .i64 b.rings,.int .i64 b.sec,.slice A1 b.kinds.length c1,.int .i64 r.eye,.int .i64 r.rings,.int .i64 r.sec,.slice A2 r.kinds.length c2,.slice A3 n3 c3,.int .i64 b.rings,.int .i64 b.sec,.slice none 0 0,.slice none 0 0,.slice none 0 0,.slice none 0 0,.slice none 0 0,.slice none 0 0,.slice none 0 0,.slice none 0 0,.slice none 0 0] 181);have hgw:w.heap.size<=g:=by have:=hb1.size;omega
  replace hb1:=hb1.alloc (by omega) (.cells #[.int .i64 b.eye,.int .i64 b.rings,.int .i64 b.sec,.slice A1 b.kinds.length c1,.int .i64 r.eye,.int .i64 r.rings,.int .i64 r.sec,.slice A2 r.kinds.length c2,.slice A3 n3 c3,.int .i64 b.rings,.int .i64 b.sec,.slice none 0 0,.slice none 0 0,.slice none 0 0,.slice none 0 0,.slice none 0 0,.slice none 0 0,.slice none 0 0,.slice none 0 0,.slice none 0 0] 181)
  generalize wc.alloc _=V at *;clear hgg;have HXW:=Hd X1;have p0:=P1.cell 0;have p1:=P1.cell 1;have p2:=P1.cell 2;have p3:=P1.cell 3;simp at p0 p1 p2 p3;cases hbo:b.ok with
  | false =>
   rw [hbo] at HV1;clear hbo;go_wp2_with (go_at_call 120;refine (HV1.out V hb1).mono ?_;rintro e V2 ⟨rfl,hb2⟩);go_ret2;exact ⟨rfl,hb1.trans (hb2.mono hb1.size)⟩
  | true =>
   rw [hbo] at HV1;have HBO:=Hd hbo;clear hbo;go_wp2_with fail;refine (HV1.out V hb1).mono ?_;rintro e V2 ⟨rfl,hb2⟩;have hb12:=hb1.trans (hb2.mono hb1.size);replace X1:=X1.keep hb2;replace F0:=F0.keep hb2;replace P1:=P1.keep hb2;replace Q1:=Q1.keep hb2;clear p0 p1 p2 p3 HXW hb1 hb2;have q0:=Q1.cell 0;have q1:=Q1.cell 1;have q2:=Q1.cell 2;have q3:=Q1.cell 3;simp at q0 q1 q2 q3;cases hro:r.ok with
   | false =>
    rw [hro] at HV2;clear hro;go_wp2_with (go_at_call 120;refine (HV2.out V2 hb12).mono ?_;rintro e V3 ⟨rfl,hb3⟩);go_ret2;exact ⟨rfl,hb12.trans (hb3.mono hb12.size)⟩
   | true =>
    rw [hro] at HV2;have HRO:=Hd hro;clear hro;go_wp2_with fail;refine (HV2.out V2 hb12).mono ?_;rintro e V3 ⟨rfl,hb3⟩;have hb13:=hb12.trans (hb3.mono hb12.size);replace X1:=X1.keep hb3;replace F0:=F0.keep hb3;replace P1:=P1.keep hb3;replace Q1:=Q1.keep hb3;clear q0 q1 q2 q3 hb12 hb3 HV1 HV2 hbW;have p0:=P1.cell 0;have p1:=P1.cell 1;have p2:=P1.cell 2;have q0:=Q1.cell 0;have q1:=Q1.cell 1;have q2:=Q1.cell 2;have x8:=X1.cell 8;simp at p0 p1 p2 q0 q1 q2 x8;have HCASE:Hid (¬ (b.eye=r.eye/\b.rings=r.rings/\b.sec=r.sec)):=fun ⟨g1,g2,g3⟩=>by
     have:=HBAD.out;simp [facesOk,HBO.out,HRO.out,g1,g2,g3] at this
    by_cases g1:b.eye=r.eye
    ·have g1':(b.eye != r.eye)=false:=by simp [g1]
     by_cases g2:b.rings=r.rings
     ·have g2':(b.rings != r.rings)=false:=by simp [g2]
      have g3:b.sec≠r.sec:=fun h=>HCASE.out ⟨g1,g2,h⟩
      have g3':(b.sec != r.sec)=true:=by simp [g3]
      clear g1 g2 g3;go_wp2_with fail;go_ret2;exact ⟨rfl,hb13⟩
     ·have g2':(b.rings != r.rings)=true:=by simp [g2]
      clear g1 g2;go_wp2_with fail;go_ret2;exact ⟨rfl,hb13⟩
    ·have g1':(b.eye != r.eye)=true:=by simp [g1]
     clear g1;go_wp2_with fail;go_ret2;exact ⟨rfl,hb13⟩
end
end Go.Proofs.YteihcodicfoiaaaGreat
