/-
  What is proved: the contract of StoryOf, on what a register must be; the whole story.
-/
import Derived.Test.YteihcodicfoiaaaGreat44Mf
namespace Go.Proofs.YteihcodicfoiaaaGreat
set_option maxRecDepth 100000
set_option maxHeartbeats 16000000
open Go Go.RowKit
theorem own_row4 {V:World} {base:Nat} {t:TypeId} {size n c:Nat} {A:Option Addr} {xs:List Value} (h:V.ownsRow base t size (.slice A n c) n xs) {r:Nat} (hr:r<base) (u0 u1 u2 u3:Value) :
  Ad ((((V.setCell ⟨r,0,none⟩ u0).setCell ⟨r,1,none⟩ u1).setCell ⟨r,2,none⟩ u2).setCell ⟨r,3,none⟩ u3) A xs:=by
 obtain ⟨A7,c7,e7,_,hrow7,_⟩:=Au h;have hlo7:∀ a,A=some a->base<=a.block:=fun a ha=>(Kc h a ha).1
 injection e7 with e7
 subst e7;exact (((hrow7.farA (p:=⟨r,0,none⟩) (fun a ha=>by have:=hlo7 a ha;simp;omega) u0).farA (p:=⟨r,1,none⟩) (fun a ha=>by have:=hlo7 a ha;simp;omega) u1).farA (p:=⟨r,2,none⟩) (fun a ha=>by have:=hlo7 a ha;simp;omega) u2).farA (p:=⟨r,3,none⟩) (fun a ha=>by have:=hlo7 a ha;simp;omega) u3
structure TellD (b:Al) (st:Int) (ixF:Flr->Nat->Nat->Nat->Nat) (H E:List EvD) (D:Ap):Prop where
 start:D.st=stS b st
 hp:D.hp=H.map hardE
 sr:(D.S.map Bh.plain,D.R)=Hr b st (cntOf b.flr ixF) H E
def StoryQ (b:Al) (st:Int) (ixF:Flr->Nat->Nat->Nat->Nat) (H E:List EvD) (w:World) (e:Ending) (V:World):Prop :=
 Below w.heap.size w V/\∃ D:Ap,e=.returned (.tuple #[.agg D.arr,.int .i64 0])/\D.At V/\TellD b st ixF H E D
attribute [local go_sem ↓] Cd Hp Dm Kg store_at70 Dh Bu builds_at118 buildT_run
theorem story0_any (b:Al) (z:Df) (H E:List EvD) (A1 A2 A3:Option Addr) (c1 c2 n3 c3:Nat) (w:World) (hb:Fa w b z) (hR:Hk b H E) (r1:Gg w A1 H) (r2:Gg w A2 E) :
  Calls Tryz.prog 18 #[.agg (b.arr z),Dv A1 H.length c1 A2 E.length c2 A3 n3 c3,.int .i64 0] w (StoryQ b 0 Eu H E w):=by
 unfold Dv;obtain ⟨W,hW⟩:∃ W,((w.alloc (.cells (b.arr z) 41)).alloc (.cells #[.slice A1 H.length c1,.slice A2 E.length c2,.slice A3 n3 c3] 49)).alloc (.cells #[.slice none 0 0,.slice none 0 0,.slice none 0 0,.slice none 0 0] 55)=W:=⟨_,rfl⟩;have hbW:Below w.heap.size w W:=by rw [<- hW];exact (Ba.alloc (by simp) _).alloc (by simp;omega) _
 have X:Bk W w.heap.size 41 (b.arr z):=by rw [<- hW];exact ((Aa rfl).alloc _).alloc _
 have Y:Bk W (w.heap.size+1) 49 #[.slice A1 H.length c1,.slice A2 E.length c2,.slice A3 n3 c3]:=by rw [<- hW];exact (Aa (by simp)).alloc _
 have Z:Bk W (w.heap.size+1+1) 55 #[.slice none 0 0,.slice none 0 0,.slice none 0 0,.slice none 0 0]:=by rw [<- hW];exact Aa (by simp)
 have H1:=Hd (Ai X (Ai Y (Ai Z hbW)));have hfr:=fr_ok hR.chk;have hfew:=hR.few;have HSR:=Hd (Ai hR.tell (Ai hR.h8 hR.e10));have HRS:=Hd (RS_of hfr hfew);have HUP:=Hd (cntOf_upto hfr hfew Eu);have HFR:=Hd hfr;have HCK:=Hd (fun (X:World) (h:Below w.heap.size w X)=>(show Calls Tryz.prog 33 #[.agg (b.arr z)] X fun e w'=>e=.returned (.int .i64 0)/\Below X.heap.size X w' from (Gv b z X (hb.below h) hfew).mono fun e w' he=>by
  obtain ⟨h1,⟨_,h2⟩ | ⟨h2,_⟩⟩:=he
  ·exact ⟨h2,h1⟩
  ·exact absurd hR.chk h2))
 have HFO:=Hd (fun (X:World)=>frameOf_any b z X)
 have HRI:=Hd (fun (X:World) (h:Below w.heap.size w X)=>right_any b.fr hfr H E A1 A2 A3 c1 c2 n3 c3 X hR.right (r1.below h) (r2.below h) hR.st200)
 have HCL:=Hd (fun (X:World) (h:Below w.heap.size w X)=>clone_spans_own z.s0.1 z.s0.2 b.s0.length (Am b.s0) X (by have:=hfew.s0;omega) (Gr _) (one_spans _) (hb.s0.below h))
 have HCN:=Hd (fun (X:World) (h:Below w.heap.size w X)=>(show Calls Tryz.prog 39 #[pairV b z] X (CountsP b.flr Eu X) by
  rw [pairV_pr z hR.chk.1.1];exact Counts_any b.flr z.loc X (hb.below h).pr (pre_of hfew hR.chk.1.1) hR.chk.1.2.1))
 have HEV:=Hd (fun (X:World) (h:Below w.heap.size w X)=>Ai (r1.below h) (r2.below h))
 unfold Dv at HRI;have hpq:w.heap.size<w.heap.size+1/\w.heap.size+1<w.heap.size+1+1:=by omega
 have l41:=Ce X rfl;have l49:=Ct Y rfl;have HW:=Hd hW;clear hW X Y Z hbW hb hR r1 r2;go_enter Tryz.func18,Tryz.ntmps18;go_upto_region 1 with fail
 rw [HW.out];clear HW;have HCK1:=Hd (HCK.out W H1.out.2.2.2);have hpW:w.heap.size+1+1<W.heap.size:=H1.out.2.2.1.lt;generalize w.heap.size + 1 + 1=r at *;generalize w.heap.size + 1=q at *;clear HCK;go_upto_region 2 with (go_at_call 33;refine HCK1.out.mono ?_;rintro e w1 ⟨rfl,hb1⟩;have H2:=Hd (Ai (H1.out.1.keep hb1) (Ai (H1.out.2.1.keep hb1) (Ai (H1.out.2.2.1.keep hb1) (H1.out.2.2.2.trans (hb1.mono H1.out.2.2.2.size)))));have hs1:=hb1.size;clear hb1)
 clear H1 HCK1 l41 l49;have l41:=Ce H2.out.1 rfl;have HFO1:=Hd (HFO.out w1);go_upto_region 5 with (go_at_call 34;refine HFO1.out.mono ?_;rintro e w2 ⟨rfl,hb2⟩;unfold FrD.val;have hb3:Below w2.heap.size w2 (w2.alloc (.cells #[.int .i64 b.fr.rings,.int .i64 b.fr.sec,.int .i64 b.fr.wide] 112)):=Ba;have Q:Bk (w2.alloc (.cells #[.int .i64 b.fr.rings,.int .i64 b.fr.sec,.int .i64 b.fr.wide] 112)) w2.heap.size 112 #[.int .i64 b.fr.rings,.int .i64 b.fr.sec,.int .i64 b.fr.wide]:=Aa rfl;have H3:=Hd (Ai ((H2.out.1.keep hb2).keep hb3) (Ai ((H2.out.2.1.keep hb2).keep hb3) (Ai ((H2.out.2.2.1.keep hb2).keep hb3) (Ai ((H2.out.2.2.2.trans (hb2.mono H2.out.2.2.2.size)).trans (hb3.mono (H2.out.2.2.2.trans (hb2.mono H2.out.2.2.2.size)).size)) Q))));have hs2:=hb2.size;clear hb2 hb3 Q)
 clear H2 HFO1 l41 HFO;generalize w2.alloc _=V1 at *;have hs3:w2.heap.size<V1.heap.size:=H3.out.2.2.2.2.lt;generalize w2.heap.size=q9 at *;have l49:=Ct H3.out.2.1 rfl;have f0:=H3.out.2.2.2.2.cell 0;have f1:=H3.out.2.2.2.2.cell 1;have f2:=H3.out.2.2.2.2.cell 2;simp at f0 f1 f2;have HRI1:=Hd (HRI.out V1 H3.out.2.2.2.1);unfold FrD.val at HRI1;go_upto_region 7 with (first | (go_at_call 35;refine HRI1.out.mono ?_;rintro e w3 ⟨rfl,hb3⟩;have H4:=Hd (Ai (H3.out.1.keep hb3) (Ai (H3.out.2.1.keep hb3) (Ai (H3.out.2.2.1.keep hb3) (Ai (H3.out.2.2.2.1.trans (hb3.mono H3.out.2.2.2.1.size)) (H3.out.2.2.2.2.keep hb3)))));have hs4:=hb3.size;clear hb3) | (go_at_call 36;refine (Bm _ _ _ _).mono ?_;rintro e _ ⟨rfl,rfl⟩))
 clear H3 HRI1 l49 f0 f1 f2 HRI;have HS0:=fun (X:World) (h:Below w3.heap.size w3 X)=>(show X.cell? ⟨q9,0,none⟩=some (.int .i64 b.bed.rings)/\X.cell? ⟨q9,1,none⟩=some (.int .i64 b.bed.sec)/\X.cell? ⟨q9,2,none⟩=some (.int .i64 b.wide)/\X.cell? ⟨w.heap.size,14,none⟩=some (.slice z.s0.1 b.s0.length z.s0.2)/\Hb 41 (.pointer (some ⟨w.heap.size,0,none⟩)) X=.ok (.agg (b.arr z)) X from ⟨((H4.out.2.2.2.2.keep h).cell 0).trans rfl,((H4.out.2.2.2.2.keep h).cell 1).trans rfl,((H4.out.2.2.2.2.keep h).cell 2).trans rfl,((H4.out.1.keep h).cell 14).trans rfl,Ce (H4.out.1.keep h) rfl⟩)
 have HHS:=Hd HS0;have hS0:=HHS.out w3.drew (Below.refl _ _).drew;have HCL1:=Hd (HCL.out w3.drew H4.out.2.2.2.1.drew);clear HS0 HCL;go_region_held3 (fun w'=>w'.cell? ⟨q9,0,none⟩=some (.int .i64 b.bed.rings)/\w'.cell? ⟨q9,1,none⟩=some (.int .i64 b.bed.sec)/\w'.cell? ⟨q9,2,none⟩=some (.int .i64 b.wide)/\w'.cell? ⟨w.heap.size,14,none⟩=some (.slice z.s0.1 b.s0.length z.s0.2)/\Hb 41 (.pointer (some ⟨w.heap.size,0,none⟩)) w'=.ok (.agg (b.arr z)) w')
  (first | with_reducible exact hS0 | with_reducible exact hS1 | with_reducible exact hS2)
  (first
  | (go_at_call 37;refine HCL1.out.mono ?_;rintro e w4 ⟨⟨A5,c5,rfl,hown⟩,hb4⟩;have hS1:=HHS.out w4 ((Below.refl w3.heap.size w3).drew.trans hb4);have hS2:=HHS.out (w4.alloc (.cells (tell0 b z 0 A5 b.s0.length c5) 118)) (((Below.refl w3.heap.size w3).drew.trans hb4).alloc hb4.size _);have H5:=Hd (Ai hown hb4);have HB118:=build118 b z 0 A5 b.s0.length c5;clear hown hb4))
 clear HB118 hS0 hS1 hS2 HCL1 HHS;obtain ⟨W3,hW3⟩:∃ X,w3.drew=X:=⟨_,rfl⟩;have hs33:W3.heap.size=w3.heap.size:=by rw [<- hW3];rfl
 have H6:=Hd (show Bk W3 w.heap.size 41 (b.arr z)/\Bk W3 q 49 #[.slice A1 H.length c1,.slice A2 E.length c2,.slice A3 n3 c3]/\Bk W3 r 55 #[.slice none 0 0,.slice none 0 0,.slice none 0 0,.slice none 0 0]/\Below w.heap.size w W3 from by
  rw [<- hW3];exact ⟨H4.out.1,H4.out.2.1,H4.out.2.2.1,H4.out.2.2.2.1.drew⟩)
 rw [hW3] at H5;have hs45:=H5.out.2.size;have hs35:w3.heap.size<=w4.heap.size:=by omega
 clear H4 hW3;have V2b:Below W3.heap.size W3 (w4.alloc (.cells (tell0 b z 0 A5 b.s0.length c5) 118)):=H5.out.2.alloc H5.out.2.size _;have V2t:Bk (w4.alloc (.cells (tell0 b z 0 A5 b.s0.length c5) 118)) w4.heap.size 118 (tell0 b z 0 A5 b.s0.length c5):=Aa rfl;have V2o:=Ca H5.out.1 ((Below.refl w4.heap.size w4).alloc Le (.cells (tell0 b z 0 A5 b.s0.length c5) 118));have HA5:Hid (∀ a,A5=some a->a.block<w4.heap.size):=Hd fun a ha=>(Kc H5.out.1 a ha).2
 generalize w4.alloc _=V2 at *;have hpt:=V2t.lt;generalize w4.heap.size=pt at *;clear H5;have H7:=Hd (Ai V2b (Ai V2t V2o));have HCN2:=Hd (HCN.out V2 (H6.out.2.2.2.trans (V2b.mono H6.out.2.2.2.size)));unfold pairV at HCN2;have HP2:=Hd (H6.out.1.keep V2b);have p0:=HP2.out.cell 0;have p1:=HP2.out.cell 1;have p2:=HP2.out.cell 2;have p3:=HP2.out.cell 3;have p4:=HP2.out.cell 4;have p5:=HP2.out.cell 5;have p6:=HP2.out.cell 6;have p7:=HP2.out.cell 7;have p8:=HP2.out.cell 8;simp [Al.arr] at p0 p1 p2 p3 p4 p5 p6 p7 p8;clear V2b V2t V2o HCN;go_upto_region 11 with (go_at_call 39;refine HCN2.out.mono ?_;rintro e w5 ⟨hb5,gc,rfl,hgc⟩;have P5:=H7.out.2.1.keep hb5;have t32:=P5.cell 32;have tf:=P5.fz 32;have tl:=P5.lt;have H8:=Hd (Ai hb5 (Ai hgc P5));simp [tell0] at t32;clear hb5 hgc P5)
 clear p0 p1 p2 p3 p4 p5 p6 p7 p8 HP2 HCN2 t32 tf tl;have hSI:Gk W3 (pt+1) pt b z 0 gc (b.flr.R*b.flr.S) (cntOf b.flr Eu) b.s0 [] [] [] ⟨A5,c5,none,0,none,0,none,0⟩ (w5.setCell ⟨pt,32,none⟩ (.slice (some ⟨gc,0,none⟩) (b.flr.R*b.flr.S) (b.flr.R*b.flr.S))):=by
  have hb5:=H8.out.1;have hz5:=hb5.size;have hgp:gc≠pt:=by
   rintro rfl;have:=H8.out.2.1.symm.trans H8.out.2.2;simp at this
  refine ⟨⟨by omega,by omega,by simp;omega⟩,(H7.out.1.trans (hb5.mono H7.out.1.size)).setCell (by simp;omega) _,?_,own_farP (Ca H7.out.2.2 hb5) (by decide) H8.out.2.2 _ _,fun a ha=>by have:=HA5.out a ha;omega,World.ownsRow_nil _ _ _ _,World.ownsRow_nil _ _ _ _,World.ownsRow_nil _ _ _ _,(H8.out.2.1:Bk w5 gc 3 _).far hgp _,fun s hs=>by cases hs⟩
  have:=H8.out.2.2.put 32 (.slice (some ⟨gc,0,none⟩) (b.flr.R*b.flr.S) (b.flr.R*b.flr.S));rw [tell0_put] at this;rw [cntOf_len];exact this
 have HSI:=Hd hSI;have h85:pt<w5.heap.size:=by have:=H8.out.1.size;omega
 clear hSI H8 H7 HA5;generalize w5.setCell _ _=V3 at *;have q0:=(H6.out.2.1.keep HSI.out.bl).cell 0;simp at q0;have h8:=HSR.out.2.1;have h10:=HSR.out.2.2;go_upto_region 12 with fail
 clear q0;obtain ⟨cnt,hcnt⟩:∃ x,cntOf b.flr Eu=x:=⟨_,rfl⟩;have HLC:=Hd (show cnt.length=b.flr.R*b.flr.S by rw [<- hcnt];exact cntOf_len _ _)
 rw [hcnt] at HSI HUP;have HCNT:=Hd hcnt;clear hcnt;go_loopw [67] (fun i wr=>∃ (hp:List (Int×Int)) (y:StoL),hp.length<=H.length/\i=.int .i64 hp.length/\Hid (hp=(H.take hp.length).map hardE)/\Hid (Gk W3 (pt+1) pt b z 0 gc (b.flr.R*b.flr.S) cnt b.s0 hp [] [] y wr)) (fun i _=>H.length - (intOf i).toNat)
 case atStart=>exact ⟨[],_,Nat.zero_le _,rfl,Hd rfl,HSI⟩
 case round =>
  clear HSI;obtain ⟨hp,y,hk,rfl,HHP,HI⟩:=hrel
  by_cases hlt:hp.length<H.length
  ·have hkI:(hp.length:Int)<H.length:=by omega
   obtain ⟨b5,o5,hA5,hb5,hc5⟩:=ev_loads (HEV.out wr (H6.out.2.2.2.trans (HI.out.bl.mono H6.out.2.2.2.size))).1.row (by omega)
   have l0:=hc5 hp.length hlt;have HA5q:=Hd hA5;rw [hA5];have HHQ:=Hd (show hp ++ [((H.getD hp.length ev0).note.hlo,(H.getD hp.length ev0).note.hhi)]=(H.take (hp.length+1)).map hardE by
    rw [List.take_add_one,List.getElem?_eq_getElem hlt,List.map_append,<- HHP.out,Aj _ _ hlt];rfl)
   clear hA5 hc5 HHP;generalize H.getD hp.length ev0=ev at *;obtain ⟨q7,hq7⟩:∃ q,wr.heap.size=q:=⟨_,rfl⟩;have s1:=Be (ty:=70) (cs:=ev.cells.toArray) (Aa (w:=wr) (t:=70) (cs:=z70) hq7) (by kernel_rfl) rfl (by rw [<- Array.all_toList,List.all_eq_true];exact fun v hv=>Jr _ v (by simpa using hv))
   have Y7:Bk ((wr.alloc (.cells z70 70)).setRow q7 ev.cells.toArray) q7 70 ev.cells.toArray:=Bj (Aa hq7) _;have hB7:Below wr.heap.size wr ((wr.alloc (.cells z70 70)).setRow q7 ev.cells.toArray):=Aq Ba (by omega) _
   have HI7:=Hd (show Bk ((wr.alloc (.cells z70 70)).setRow q7 ev.cells.toArray) q7 70 ev.cells.toArray/\Gk W3 (pt+1) pt b z 0 gc (b.flr.R*b.flr.S) cnt b.s0 hp [] [] y ((wr.alloc (.cells z70 70)).setRow q7 ev.cells.toArray) from ⟨Y7,HI.out.below hB7⟩)
   have hq7p:pt<q7:=by have:=HI.out.lt;omega
   clear Y7 hB7 HI;go_upto_region 14 with fail
   clear s1 l0 hq7;generalize (wr.alloc _).setRow _ _=V at *;have I5:=HI7.out.2.drew;have Y5:Bk V.drew q7 70 ev.cells.toArray:=HI7.out.1;have hBx:Below V.drew.heap.size V.drew (V.drew.alloc (.cells #[.int .i64 ev.note.hlo,.int .i64 ev.note.hhi] 29)):=Ba;have I6:=I5.below hBx;have Y6:=Y5.keep hBx;obtain ⟨i0,hi0,hz0,hz1,hz2⟩:=info_parts info_spans;have hS0:V.drew.cell? ⟨q7,10,none⟩=some (.int .i64 ev.note.hlo)/\V.drew.cell? ⟨q7,11,none⟩=some (.int .i64 ev.note.hhi):=⟨(Y5.cell 10).trans rfl,(Y5.cell 11).trans rfl⟩;have hS1:(V.drew.alloc (.cells #[.int .i64 ev.note.hlo,.int .i64 ev.note.hhi] 29)).cell? ⟨q7,10,none⟩=some (.int .i64 ev.note.hlo)/\(V.drew.alloc (.cells #[.int .i64 ev.note.hlo,.int .i64 ev.note.hhi] 29)).cell? ⟨q7,11,none⟩=some (.int .i64 ev.note.hhi):=⟨(Y6.cell 10).trans rfl,(Y6.cell 11).trans rfl⟩;have c34:=I5.bk.cell 34;have c34b:=I6.bk.cell 34;simp [Cx] at c34 c34b;have hpt5:pt<V.heap.size:=I5.bk.lt;have hq75:q7<V.heap.size:=Y5.lt;have HI6:=Hd (Ai I6 Y6);have hle6:=I6.lt.2.2;clear I5 I6 Y5 Y6 hBx HI7;have hne5:q7≠pt:=by omega
   go_region_law (first
    | (refine Dq rfl _ _ 30 rfl (pt+1) 29 i0 _ 2 16 Tryz.underlying30 hi0 hz0 hz1 hz2 rfl (by decide) (.slice y.hA hp.length y.hc) hp.length (Am hp) rfl HI6.out.1.hs ⟨V.drew.heap.size,0,none⟩ 1 1 [.int .i64 ev.note.hlo,.int .i64 ev.note.hhi] rfl rfl (Gb (Aa rfl)) (by simp [Value.oneCell']) (by unfold maxLen;omega) (by omega) hle6 ?_;intro v6 w6 hown6 hg6;obtain ⟨A6,c6,rfl,_,_,_⟩:=Au hown6;have B7:Bk w6 pt 118 (Cx b z 0 gc cnt.length (b.flr.R*b.flr.S) y b.s0.length hp.length 0 0):=(hg6.block pt HI6.out.1.bk.lt (Bl HI6.out.1.hs HI6.out.1.bk (by decide))).trans HI6.out.1.bk;have Y7:Bk w6 q7 70 ev.cells.toArray:=(hg6.block q7 HI6.out.2.lt (Bl HI6.out.1.hs HI6.out.2 (by decide))).trans HI6.out.2;have Y8:=Y7.far (p:=⟨pt,34,none⟩) hne5 (.slice A6 (hp.length+1) c6);have hS2:w6.cell? ⟨q7,10,none⟩=some (.int .i64 ev.note.hlo)/\w6.cell? ⟨q7,11,none⟩=some (.int .i64 ev.note.hhi):=⟨(Y7.cell 10).trans rfl,(Y7.cell 11).trans rfl⟩;have hS3:(w6.setCell ⟨pt,34,none⟩ (.slice A6 (hp.length+1) c6)).cell? ⟨q7,10,none⟩=some (.int .i64 ev.note.hlo)/\(w6.setCell ⟨pt,34,none⟩ (.slice A6 (hp.length+1) c6)).cell? ⟨q7,11,none⟩=some (.int .i64 ev.note.hhi):=⟨(Y8.cell 10).trans rfl,(Y8.cell 11).trans rfl⟩;have c4:=B7.cell 34;have f4:=B7.fz 34;have l4:=B7.lt;simp [Cx] at c4;have HEND:=Hd (HI6.out.1.pushHeap (ev.note.hlo,ev.note.hhi) hown6 hg6);clear B7 Y7 Y8 hown6 hg6))
   all_goals
    clear hS0 hS1 hS2 hS3 c4 f4 l4 c34 c34b;go_wp2_with fail;go_roundw
    case rel=>exact ⟨hp ++ [(ev.note.hlo,ev.note.hhi)],_,by simp;omega,by simp,Hd (by rw [HHQ.out];simp),HEND⟩
    case measure=>simp [intOf];omega
  ·have hke:hp.length=H.length:=by omega
   have HHE:=Hd (show hp=H.map hardE by rw [HHP.out,hke,List.take_length])
   clear HHP;clear hk hlt;obtain ⟨V9,hV9⟩:∃ X,X=wr:=⟨_,rfl⟩;subst hV9;have q1:=(H6.out.2.1.keep HI.out.bl).cell 1;simp at q1;go_upto_region 17 with fail
   clear q1 hke;go_loopw [89] (fun i ws=>∃ (k:Nat) (S:List Bh) (R:List Da) (y:StoL),k<=E.length/\i=.int .i64 k/\Hid (Gk W3 (pt+1) pt b z 0 gc (b.flr.R*b.flr.S) cnt b.s0 hp S R y ws/\(S.map Bh.plain,R)=Hr b 0 cnt H (E.take k))) (fun i _=>E.length - (intOf i).toNat)
   case atStart=>exact ⟨0,[],[],_,Nat.zero_le _,rfl,HI.out,rfl⟩
   case round =>
    clear HI;obtain ⟨k,S,R,y,hk,rfl,HI⟩:=hrel;have hSk:S.length<=k/\R.length<=k:=by
     have h1:=toldF_len b 0 cnt H (E.take k);rw [<- HI.out.2] at h1;simp only [List.length_map,List.length_take] at h1;omega
    by_cases hlt:k<E.length
    ·have hkI:(k:Int)<E.length:=by omega
     obtain ⟨b5,o5,hA5,hb5,hc5⟩:=ev_loads (HEV.out wr (H6.out.2.2.2.trans (HI.out.1.bl.mono H6.out.2.2.2.size))).2.row (by omega)
     have l0:=hc5 k hlt;have htk:E.take (k+1)=E.take k ++ [E.getD k ev0]:=by rw [List.take_add_one,List.getElem?_eq_getElem hlt,Aj _ _ hlt];rfl
     have HTK:=Hd (show Hr b 0 cnt H (E.take (k+1))=Fh b 0 cnt H (Hr b 0 cnt H (E.take k)) (E.getD k ev0).note by rw [htk,toldF_snoc])
     have HTO:=Hd (HSR.out.1 (E.getD k ev0) (Cg ev0 hlt));have HAT:=Hd (fun (X:World) (h:Below w.heap.size w X)=>(HEV.out X h).2.str (E.getD k ev0) (Cg ev0 hlt))
     rw [hA5];have HA5q:=Hd hA5;clear hA5 hc5 htk;generalize E.getD k ev0=ev at *;obtain ⟨q7,hq7⟩:∃ q,wr.heap.size=q:=⟨_,rfl⟩;have s1:=Be (ty:=70) (cs:=ev.cells.toArray) (Aa (w:=wr) (t:=70) (cs:=z70) hq7) (by kernel_rfl) rfl (by rw [<- Array.all_toList,List.all_eq_true];exact fun v hv=>Jr _ v (by simpa using hv))
     have Y7:Bk ((wr.alloc (.cells z70 70)).setRow q7 ev.cells.toArray) q7 70 ev.cells.toArray:=Bj (Aa hq7) _;have hB7:Below wr.heap.size wr ((wr.alloc (.cells z70 70)).setRow q7 ev.cells.toArray):=Aq Ba (by omega) _
     have HI7:=Hd (show Bk ((wr.alloc (.cells z70 70)).setRow q7 ev.cells.toArray) q7 70 ev.cells.toArray/\Gk W3 (pt+1) pt b z 0 gc (b.flr.R*b.flr.S) cnt b.s0 hp S R y ((wr.alloc (.cells z70 70)).setRow q7 ev.cells.toArray)/\(S.map Bh.plain,R)=Hr b 0 cnt H (E.take k) from ⟨Y7,HI.out.1.below hB7,HI.out.2⟩)
     clear Y7 hB7 HI;go_upto_region 19 with fail
     clear s1 l0 hq7;generalize (wr.alloc _).setRow _ _=V at *;have hBV:=H6.out.2.2.2.trans (HI7.out.2.1.bl.mono H6.out.2.2.2.size);have le:=evnote_eq ev HI7.out.1;have l49:=Ct (H6.out.2.1.keep HI7.out.2.1.bl) rfl;have HTE:=Hd (tell_any W3 V (pt+1) pt b z 0 gc (b.flr.R*b.flr.S) cnt b.s0 hp H A1 A2 A3 c1 E.length c2 n3 c3 S R y ev.note HI7.out.2.1 HFR.out (HEV.out V hBV).1.row (by omega) (HAT.out V hBV) HTO.out (by rw [HLC.out];exact HRS.out.1) (by rw [HLC.out];exact Nat.le_trans (Nat.mul_le_mul HRS.out.2.1 HRS.out.2.2) (by decide)) HUP.out (by omega) (by omega))
     unfold Dv at HTE;clear hBV;go_wp2_with (go_at_call 40;refine HTE.out.mono ?_;rintro e w8 ⟨rfl,S2,R2,y2,hI2,he2⟩;rw [HI7.out.2.2,<- HTK.out] at he2;have HEND:=Hd (Ai hI2 he2);clear hI2 he2);go_roundw
     case rel =>
      exact ⟨k+1,S2,R2,y2,by omega,by go_num,HEND⟩
     case measure=>simp [intOf];omega
    ·obtain rfl:k=E.length:=by omega
     rw [List.take_length] at HI;have c33:=HI.out.1.bk.cell 33;have c34:=HI.out.1.bk.cell 34;have c35:=HI.out.1.bk.cell 35;have c36:=HI.out.1.bk.cell 36;simp [Cx] at c33 c34 c35 c36;have hpt5:pt<wr.heap.size:=HI.out.1.bk.lt;have T:=H6.out.2.2.1.keep HI.out.1.bl;have r0:=T.fz 0;have r1:=T.fz 1;have r2:=T.fz 2;have r3:=T.fz 3;have u0:=T.cell 0;have u1:=T.cell 1;have u2:=T.cell 2;have u3:=T.cell 3;have rl:=T.lt;simp at u0 u1 u2 u3;have HT:=Hd T;clear T;go_wp2_with fail;have T:=(((HT.out.put 0 (.slice y.sA b.s0.length y.sc)).put 1 (.slice y.hA hp.length y.hc)).put 2 (.slice y.kA S.length y.kc)).put 3 (.slice y.rA R.length y.rc);have hr3:r<W3.heap.size:=H6.out.2.2.1.lt;have hBf:Below w.heap.size w wr:=H6.out.2.2.2.trans (HI.out.1.bl.mono H6.out.2.2.2.size);have hBg:=(((hBf.setCell (p:=⟨r,0,none⟩) (by simp;omega) (.slice y.sA b.s0.length y.sc)).setCell (p:=⟨r,1,none⟩) (by simp;omega) (.slice y.hA hp.length y.hc)).setCell (p:=⟨r,2,none⟩) (by simp;omega) (.slice y.kA S.length y.kc)).setCell (p:=⟨r,3,none⟩) (by simp;omega) (.slice y.rA R.length y.rc)
     refine bodyPost_ret (v:=.tuple #[.agg (Ap.arr ⟨b.s0,hp,S,R,y.sA,y.sc,y.hA,y.hc,y.kA,y.kc,y.rA,y.rc⟩),.int .i64 0]) (Hm (fn:=Tryz.f18) (p:=6) (q:=7) rfl rfl T rfl Tryz.underlying55 (by kernel_rfl)) rfl ?_
     have hlB:=HI.out.1.lt;refine ⟨hBg,⟨b.s0,hp,S,R,y.sA,y.sc,y.hA,y.hc,y.kA,y.kc,y.rA,y.rc⟩,rfl,⟨own_row4 HI.out.1.ss hr3 _ _ _ _,own_row4 HI.out.1.hs (by omega) _ _ _ _,own_row4 HI.out.1.ks (by omega) _ _ _ _,own_row4 HI.out.1.rs (by omega) _ _ _ _,fun s hs=>?_⟩,⟨rfl,HHE.out,by rw [HI.out.2,HCNT.out]⟩⟩
     obtain ⟨g,hg1,hg2,hg3⟩:=HI.out.1.tm s hs;have hgr:g≠r:=by omega
     have hg4:=(((hg3.far (p:=⟨r,0,none⟩) hgr (.slice y.sA b.s0.length y.sc)).far (p:=⟨r,1,none⟩) hgr (.slice y.hA hp.length y.hc)).far (p:=⟨r,2,none⟩) hgr (.slice y.kA S.length y.kc)).far (p:=⟨r,3,none⟩) hgr (.slice y.rA R.length y.rc);intro _;exact ⟨g,0,hg1,hg4.lt,fun k v hk=>by rw [Nat.zero_add,hg4.cell k];simpa using hk⟩
attribute [local go_sem ↓] Cd Hp Dm Kg store_at70 Dh Bu builds_at118 buildT_run
theorem story1_any (b:Al) (z:Df) (H E:List EvD) (A1 A2 A3:Option Addr) (c1 c2 n3 c3:Nat) (w:World) (hb:Fa w b z) (hR:Hk b H E) (r1:Gg w A1 H) (r2:Gg w A2 E) :
  Calls Tryz.prog 18 #[.agg (b.arr z),Dv A1 H.length c1 A2 E.length c2 A3 n3 c3,.int .i64 1] w (StoryQ b 1 Er H E w):=by
 unfold Dv;obtain ⟨W,hW⟩:∃ W,((w.alloc (.cells (b.arr z) 41)).alloc (.cells #[.slice A1 H.length c1,.slice A2 E.length c2,.slice A3 n3 c3] 49)).alloc (.cells #[.slice none 0 0,.slice none 0 0,.slice none 0 0,.slice none 0 0] 55)=W:=⟨_,rfl⟩;have hbW:Below w.heap.size w W:=by rw [<- hW];exact (Ba.alloc (by simp) _).alloc (by simp;omega) _
 have X:Bk W w.heap.size 41 (b.arr z):=by rw [<- hW];exact ((Aa rfl).alloc _).alloc _
 have Y:Bk W (w.heap.size+1) 49 #[.slice A1 H.length c1,.slice A2 E.length c2,.slice A3 n3 c3]:=by rw [<- hW];exact (Aa (by simp)).alloc _
 have Z:Bk W (w.heap.size+1+1) 55 #[.slice none 0 0,.slice none 0 0,.slice none 0 0,.slice none 0 0]:=by rw [<- hW];exact Aa (by simp)
 have H1:=Hd (Ai X (Ai Y (Ai Z hbW)));have hfr:=fr_ok hR.chk;have hfew:=hR.few;have HSR:=Hd (Ai hR.tell (Ai hR.h8 hR.e10));have HRS:=Hd (RS_of hfr hfew);have HUP:=Hd (cntOf_upto hfr hfew Er);have HFR:=Hd hfr;have HCK:=Hd (fun (X:World) (h:Below w.heap.size w X)=>(show Calls Tryz.prog 33 #[.agg (b.arr z)] X fun e w'=>e=.returned (.int .i64 0)/\Below X.heap.size X w' from (Gv b z X (hb.below h) hfew).mono fun e w' he=>by
  obtain ⟨h1,⟨_,h2⟩ | ⟨h2,_⟩⟩:=he
  ·exact ⟨h2,h1⟩
  ·exact absurd hR.chk h2))
 have HFO:=Hd (fun (X:World)=>frameOf_any b z X)
 have HRI:=Hd (fun (X:World) (h:Below w.heap.size w X)=>right_any b.fr hfr H E A1 A2 A3 c1 c2 n3 c3 X hR.right (r1.below h) (r2.below h) hR.st200)
 have HCL:=Hd (fun (X:World) (h:Below w.heap.size w X)=>clone_spans_own z.s1.1 z.s1.2 b.s1.length (Am b.s1) X (by have:=hfew.s1;omega) (Gr _) (one_spans _) (hb.s1.below h))
 have HCN:=Hd (fun (X:World) (h:Below w.heap.size w X)=>(show Calls Tryz.prog 38 #[pairV b z] X (CountsP b.flr Er X) by
  rw [pairV_pr z hR.chk.1.1];exact RunnerCounts_any b.flr z.loc X (hb.below h).pr (pre_of hfew hR.chk.1.1) hR.chk.1.2.1))
 have HEV:=Hd (fun (X:World) (h:Below w.heap.size w X)=>Ai (r1.below h) (r2.below h))
 unfold Dv at HRI;have hpq:w.heap.size<w.heap.size+1/\w.heap.size+1<w.heap.size+1+1:=by omega
 have l41:=Ce X rfl;have l49:=Ct Y rfl;have HW:=Hd hW;clear hW X Y Z hbW hb hR r1 r2;go_enter Tryz.func18,Tryz.ntmps18;go_upto_region 1 with fail
 rw [HW.out];clear HW;have HCK1:=Hd (HCK.out W H1.out.2.2.2);have hpW:w.heap.size+1+1<W.heap.size:=H1.out.2.2.1.lt;generalize w.heap.size + 1 + 1=r at *;generalize w.heap.size + 1=q at *;clear HCK;go_upto_region 2 with (go_at_call 33;refine HCK1.out.mono ?_;rintro e w1 ⟨rfl,hb1⟩;have H2:=Hd (Ai (H1.out.1.keep hb1) (Ai (H1.out.2.1.keep hb1) (Ai (H1.out.2.2.1.keep hb1) (H1.out.2.2.2.trans (hb1.mono H1.out.2.2.2.size)))));have hs1:=hb1.size;clear hb1)
 clear H1 HCK1 l41 l49;have l41:=Ce H2.out.1 rfl;have HFO1:=Hd (HFO.out w1);go_upto_region 5 with (go_at_call 34;refine HFO1.out.mono ?_;rintro e w2 ⟨rfl,hb2⟩;unfold FrD.val;have hb3:Below w2.heap.size w2 (w2.alloc (.cells #[.int .i64 b.fr.rings,.int .i64 b.fr.sec,.int .i64 b.fr.wide] 112)):=Ba;have Q:Bk (w2.alloc (.cells #[.int .i64 b.fr.rings,.int .i64 b.fr.sec,.int .i64 b.fr.wide] 112)) w2.heap.size 112 #[.int .i64 b.fr.rings,.int .i64 b.fr.sec,.int .i64 b.fr.wide]:=Aa rfl;have H3:=Hd (Ai ((H2.out.1.keep hb2).keep hb3) (Ai ((H2.out.2.1.keep hb2).keep hb3) (Ai ((H2.out.2.2.1.keep hb2).keep hb3) (Ai ((H2.out.2.2.2.trans (hb2.mono H2.out.2.2.2.size)).trans (hb3.mono (H2.out.2.2.2.trans (hb2.mono H2.out.2.2.2.size)).size)) Q))));have hs2:=hb2.size;clear hb2 hb3 Q)
 clear H2 HFO1 l41 HFO;generalize w2.alloc _=V1 at *;have hs3:w2.heap.size<V1.heap.size:=H3.out.2.2.2.2.lt;generalize w2.heap.size=q9 at *;have l49:=Ct H3.out.2.1 rfl;have f0:=H3.out.2.2.2.2.cell 0;have f1:=H3.out.2.2.2.2.cell 1;have f2:=H3.out.2.2.2.2.cell 2;simp at f0 f1 f2;have HRI1:=Hd (HRI.out V1 H3.out.2.2.2.1);unfold FrD.val at HRI1;go_upto_region 7 with (first | (go_at_call 35;refine HRI1.out.mono ?_;rintro e w3 ⟨rfl,hb3⟩;have H4:=Hd (Ai (H3.out.1.keep hb3) (Ai (H3.out.2.1.keep hb3) (Ai (H3.out.2.2.1.keep hb3) (Ai (H3.out.2.2.2.1.trans (hb3.mono H3.out.2.2.2.1.size)) (H3.out.2.2.2.2.keep hb3)))));have hs4:=hb3.size;clear hb3) | (go_at_call 36;refine (Bm _ _ _ _).mono ?_;rintro e _ ⟨rfl,rfl⟩))
 clear H3 HRI1 l49 f0 f1 f2 HRI;have HS0:=fun (X:World) (h:Below w3.heap.size w3 X)=>(show X.cell? ⟨q9,0,none⟩=some (.int .i64 b.bed.rings)/\X.cell? ⟨q9,1,none⟩=some (.int .i64 b.bed.sec)/\X.cell? ⟨q9,2,none⟩=some (.int .i64 b.wide)/\X.cell? ⟨w.heap.size,15,none⟩=some (.slice z.s1.1 b.s1.length z.s1.2)/\Hb 41 (.pointer (some ⟨w.heap.size,0,none⟩)) X=.ok (.agg (b.arr z)) X from ⟨((H4.out.2.2.2.2.keep h).cell 0).trans rfl,((H4.out.2.2.2.2.keep h).cell 1).trans rfl,((H4.out.2.2.2.2.keep h).cell 2).trans rfl,((H4.out.1.keep h).cell 15).trans rfl,Ce (H4.out.1.keep h) rfl⟩)
 have HHS:=Hd HS0;have hS0:=HHS.out w3.drew (Below.refl _ _).drew;have HCL1:=Hd (HCL.out w3.drew H4.out.2.2.2.1.drew);clear HS0 HCL;go_region_held3 (fun w'=>w'.cell? ⟨q9,0,none⟩=some (.int .i64 b.bed.rings)/\w'.cell? ⟨q9,1,none⟩=some (.int .i64 b.bed.sec)/\w'.cell? ⟨q9,2,none⟩=some (.int .i64 b.wide)/\w'.cell? ⟨w.heap.size,15,none⟩=some (.slice z.s1.1 b.s1.length z.s1.2)/\Hb 41 (.pointer (some ⟨w.heap.size,0,none⟩)) w'=.ok (.agg (b.arr z)) w')
  (first | with_reducible exact hS0 | with_reducible exact hS1 | with_reducible exact hS2)
  (first
  | (go_at_call 37;refine HCL1.out.mono ?_;rintro e w4 ⟨⟨A5,c5,rfl,hown⟩,hb4⟩;have hS1:=HHS.out w4 ((Below.refl w3.heap.size w3).drew.trans hb4);have hS2:=HHS.out (w4.alloc (.cells (tell0 b z 1 A5 b.s1.length c5) 118)) (((Below.refl w3.heap.size w3).drew.trans hb4).alloc hb4.size _);have H5:=Hd (Ai hown hb4);have HB118:=build118 b z 1 A5 b.s1.length c5;clear hown hb4))
 clear HB118 hS0 hS1 hS2 HCL1 HHS;obtain ⟨W3,hW3⟩:∃ X,w3.drew=X:=⟨_,rfl⟩;have hs33:W3.heap.size=w3.heap.size:=by rw [<- hW3];rfl
 have H6:=Hd (show Bk W3 w.heap.size 41 (b.arr z)/\Bk W3 q 49 #[.slice A1 H.length c1,.slice A2 E.length c2,.slice A3 n3 c3]/\Bk W3 r 55 #[.slice none 0 0,.slice none 0 0,.slice none 0 0,.slice none 0 0]/\Below w.heap.size w W3 from by
  rw [<- hW3];exact ⟨H4.out.1,H4.out.2.1,H4.out.2.2.1,H4.out.2.2.2.1.drew⟩)
 rw [hW3] at H5;have hs45:=H5.out.2.size;have hs35:w3.heap.size<=w4.heap.size:=by omega
 clear H4 hW3;have V2b:Below W3.heap.size W3 (w4.alloc (.cells (tell0 b z 1 A5 b.s1.length c5) 118)):=H5.out.2.alloc H5.out.2.size _;have V2t:Bk (w4.alloc (.cells (tell0 b z 1 A5 b.s1.length c5) 118)) w4.heap.size 118 (tell0 b z 1 A5 b.s1.length c5):=Aa rfl;have V2o:=Ca H5.out.1 ((Below.refl w4.heap.size w4).alloc Le (.cells (tell0 b z 1 A5 b.s1.length c5) 118));have HA5:Hid (∀ a,A5=some a->a.block<w4.heap.size):=Hd fun a ha=>(Kc H5.out.1 a ha).2
 generalize w4.alloc _=V2 at *;have hpt:=V2t.lt;generalize w4.heap.size=pt at *;clear H5;have H7:=Hd (Ai V2b (Ai V2t V2o));have HCN2:=Hd (HCN.out V2 (H6.out.2.2.2.trans (V2b.mono H6.out.2.2.2.size)));unfold pairV at HCN2;have HP2:=Hd (H6.out.1.keep V2b);have p0:=HP2.out.cell 0;have p1:=HP2.out.cell 1;have p2:=HP2.out.cell 2;have p3:=HP2.out.cell 3;have p4:=HP2.out.cell 4;have p5:=HP2.out.cell 5;have p6:=HP2.out.cell 6;have p7:=HP2.out.cell 7;have p8:=HP2.out.cell 8;simp [Al.arr] at p0 p1 p2 p3 p4 p5 p6 p7 p8;clear V2b V2t V2o HCN;go_upto_region 11 with (go_at_call 38;refine HCN2.out.mono ?_;rintro e w5 ⟨hb5,gc,rfl,hgc⟩;have P5:=H7.out.2.1.keep hb5;have t32:=P5.cell 32;have tf:=P5.fz 32;have tl:=P5.lt;have H8:=Hd (Ai hb5 (Ai hgc P5));simp [tell0] at t32;clear hb5 hgc P5)
 clear p0 p1 p2 p3 p4 p5 p6 p7 p8 HP2 HCN2 t32 tf tl;have hSI:Gk W3 (pt+1) pt b z 1 gc (b.flr.R*b.flr.S) (cntOf b.flr Er) b.s1 [] [] [] ⟨A5,c5,none,0,none,0,none,0⟩ (w5.setCell ⟨pt,32,none⟩ (.slice (some ⟨gc,0,none⟩) (b.flr.R*b.flr.S) (b.flr.R*b.flr.S))):=by
  have hb5:=H8.out.1;have hz5:=hb5.size;have hgp:gc≠pt:=by
   rintro rfl;have:=H8.out.2.1.symm.trans H8.out.2.2;simp at this
  refine ⟨⟨by omega,by omega,by simp;omega⟩,(H7.out.1.trans (hb5.mono H7.out.1.size)).setCell (by simp;omega) _,?_,own_farP (Ca H7.out.2.2 hb5) (by decide) H8.out.2.2 _ _,fun a ha=>by have:=HA5.out a ha;omega,World.ownsRow_nil _ _ _ _,World.ownsRow_nil _ _ _ _,World.ownsRow_nil _ _ _ _,(H8.out.2.1:Bk w5 gc 3 _).far hgp _,fun s hs=>by cases hs⟩
  have:=H8.out.2.2.put 32 (.slice (some ⟨gc,0,none⟩) (b.flr.R*b.flr.S) (b.flr.R*b.flr.S));rw [tell0_put] at this;rw [cntOf_len];exact this
 have HSI:=Hd hSI;have h85:pt<w5.heap.size:=by have:=H8.out.1.size;omega
 clear hSI H8 H7 HA5;generalize w5.setCell _ _=V3 at *;have q0:=(H6.out.2.1.keep HSI.out.bl).cell 0;simp at q0;have h8:=HSR.out.2.1;have h10:=HSR.out.2.2;go_upto_region 12 with fail
 clear q0;obtain ⟨cnt,hcnt⟩:∃ x,cntOf b.flr Er=x:=⟨_,rfl⟩;have HLC:=Hd (show cnt.length=b.flr.R*b.flr.S by rw [<- hcnt];exact cntOf_len _ _)
 rw [hcnt] at HSI HUP;have HCNT:=Hd hcnt;clear hcnt;go_loopw [67] (fun i wr=>∃ (hp:List (Int×Int)) (y:StoL),hp.length<=H.length/\i=.int .i64 hp.length/\Hid (hp=(H.take hp.length).map hardE)/\Hid (Gk W3 (pt+1) pt b z 1 gc (b.flr.R*b.flr.S) cnt b.s1 hp [] [] y wr)) (fun i _=>H.length - (intOf i).toNat)
 case atStart=>exact ⟨[],_,Nat.zero_le _,rfl,Hd rfl,HSI⟩
 case round =>
  clear HSI;obtain ⟨hp,y,hk,rfl,HHP,HI⟩:=hrel
  by_cases hlt:hp.length<H.length
  ·have hkI:(hp.length:Int)<H.length:=by omega
   obtain ⟨b5,o5,hA5,hb5,hc5⟩:=ev_loads (HEV.out wr (H6.out.2.2.2.trans (HI.out.bl.mono H6.out.2.2.2.size))).1.row (by omega)
   have l0:=hc5 hp.length hlt;have HA5q:=Hd hA5;rw [hA5];have HHQ:=Hd (show hp ++ [((H.getD hp.length ev0).note.hlo,(H.getD hp.length ev0).note.hhi)]=(H.take (hp.length+1)).map hardE by
    rw [List.take_add_one,List.getElem?_eq_getElem hlt,List.map_append,<- HHP.out,Aj _ _ hlt];rfl)
   clear hA5 hc5 HHP;generalize H.getD hp.length ev0=ev at *;obtain ⟨q7,hq7⟩:∃ q,wr.heap.size=q:=⟨_,rfl⟩;have s1:=Be (ty:=70) (cs:=ev.cells.toArray) (Aa (w:=wr) (t:=70) (cs:=z70) hq7) (by kernel_rfl) rfl (by rw [<- Array.all_toList,List.all_eq_true];exact fun v hv=>Jr _ v (by simpa using hv))
   have Y7:Bk ((wr.alloc (.cells z70 70)).setRow q7 ev.cells.toArray) q7 70 ev.cells.toArray:=Bj (Aa hq7) _;have hB7:Below wr.heap.size wr ((wr.alloc (.cells z70 70)).setRow q7 ev.cells.toArray):=Aq Ba (by omega) _
   have HI7:=Hd (show Bk ((wr.alloc (.cells z70 70)).setRow q7 ev.cells.toArray) q7 70 ev.cells.toArray/\Gk W3 (pt+1) pt b z 1 gc (b.flr.R*b.flr.S) cnt b.s1 hp [] [] y ((wr.alloc (.cells z70 70)).setRow q7 ev.cells.toArray) from ⟨Y7,HI.out.below hB7⟩)
   have hq7p:pt<q7:=by have:=HI.out.lt;omega
   clear Y7 hB7 HI;go_upto_region 14 with fail
   clear s1 l0 hq7;generalize (wr.alloc _).setRow _ _=V at *;have I5:=HI7.out.2.drew;have Y5:Bk V.drew q7 70 ev.cells.toArray:=HI7.out.1;have hBx:Below V.drew.heap.size V.drew (V.drew.alloc (.cells #[.int .i64 ev.note.hlo,.int .i64 ev.note.hhi] 29)):=Ba;have I6:=I5.below hBx;have Y6:=Y5.keep hBx;obtain ⟨i0,hi0,hz0,hz1,hz2⟩:=info_parts info_spans;have hS0:V.drew.cell? ⟨q7,10,none⟩=some (.int .i64 ev.note.hlo)/\V.drew.cell? ⟨q7,11,none⟩=some (.int .i64 ev.note.hhi):=⟨(Y5.cell 10).trans rfl,(Y5.cell 11).trans rfl⟩;have hS1:(V.drew.alloc (.cells #[.int .i64 ev.note.hlo,.int .i64 ev.note.hhi] 29)).cell? ⟨q7,10,none⟩=some (.int .i64 ev.note.hlo)/\(V.drew.alloc (.cells #[.int .i64 ev.note.hlo,.int .i64 ev.note.hhi] 29)).cell? ⟨q7,11,none⟩=some (.int .i64 ev.note.hhi):=⟨(Y6.cell 10).trans rfl,(Y6.cell 11).trans rfl⟩;have c34:=I5.bk.cell 34;have c34b:=I6.bk.cell 34;simp [Cx] at c34 c34b;have hpt5:pt<V.heap.size:=I5.bk.lt;have hq75:q7<V.heap.size:=Y5.lt;have HI6:=Hd (Ai I6 Y6);have hle6:=I6.lt.2.2;clear I5 I6 Y5 Y6 hBx HI7;have hne5:q7≠pt:=by omega
   go_region_law (first
    | (refine Dq rfl _ _ 30 rfl (pt+1) 29 i0 _ 2 16 Tryz.underlying30 hi0 hz0 hz1 hz2 rfl (by decide) (.slice y.hA hp.length y.hc) hp.length (Am hp) rfl HI6.out.1.hs ⟨V.drew.heap.size,0,none⟩ 1 1 [.int .i64 ev.note.hlo,.int .i64 ev.note.hhi] rfl rfl (Gb (Aa rfl)) (by simp [Value.oneCell']) (by unfold maxLen;omega) (by omega) hle6 ?_;intro v6 w6 hown6 hg6;obtain ⟨A6,c6,rfl,_,_,_⟩:=Au hown6;have B7:Bk w6 pt 118 (Cx b z 1 gc cnt.length (b.flr.R*b.flr.S) y b.s1.length hp.length 0 0):=(hg6.block pt HI6.out.1.bk.lt (Bl HI6.out.1.hs HI6.out.1.bk (by decide))).trans HI6.out.1.bk;have Y7:Bk w6 q7 70 ev.cells.toArray:=(hg6.block q7 HI6.out.2.lt (Bl HI6.out.1.hs HI6.out.2 (by decide))).trans HI6.out.2;have Y8:=Y7.far (p:=⟨pt,34,none⟩) hne5 (.slice A6 (hp.length+1) c6);have hS2:w6.cell? ⟨q7,10,none⟩=some (.int .i64 ev.note.hlo)/\w6.cell? ⟨q7,11,none⟩=some (.int .i64 ev.note.hhi):=⟨(Y7.cell 10).trans rfl,(Y7.cell 11).trans rfl⟩;have hS3:(w6.setCell ⟨pt,34,none⟩ (.slice A6 (hp.length+1) c6)).cell? ⟨q7,10,none⟩=some (.int .i64 ev.note.hlo)/\(w6.setCell ⟨pt,34,none⟩ (.slice A6 (hp.length+1) c6)).cell? ⟨q7,11,none⟩=some (.int .i64 ev.note.hhi):=⟨(Y8.cell 10).trans rfl,(Y8.cell 11).trans rfl⟩;have c4:=B7.cell 34;have f4:=B7.fz 34;have l4:=B7.lt;simp [Cx] at c4;have HEND:=Hd (HI6.out.1.pushHeap (ev.note.hlo,ev.note.hhi) hown6 hg6);clear B7 Y7 Y8 hown6 hg6))
   all_goals
    clear hS0 hS1 hS2 hS3 c4 f4 l4 c34 c34b;go_wp2_with fail;go_roundw
    case rel=>exact ⟨hp ++ [(ev.note.hlo,ev.note.hhi)],_,by simp;omega,by simp,Hd (by rw [HHQ.out];simp),HEND⟩
    case measure=>simp [intOf];omega
  ·have hke:hp.length=H.length:=by omega
   have HHE:=Hd (show hp=H.map hardE by rw [HHP.out,hke,List.take_length])
   clear HHP;clear hk hlt;obtain ⟨V9,hV9⟩:∃ X,X=wr:=⟨_,rfl⟩;subst hV9;have q1:=(H6.out.2.1.keep HI.out.bl).cell 1;simp at q1;go_upto_region 17 with fail
   clear q1 hke;go_loopw [89] (fun i ws=>∃ (k:Nat) (S:List Bh) (R:List Da) (y:StoL),k<=E.length/\i=.int .i64 k/\Hid (Gk W3 (pt+1) pt b z 1 gc (b.flr.R*b.flr.S) cnt b.s1 hp S R y ws/\(S.map Bh.plain,R)=Hr b 1 cnt H (E.take k))) (fun i _=>E.length - (intOf i).toNat)
   case atStart=>exact ⟨0,[],[],_,Nat.zero_le _,rfl,HI.out,rfl⟩
   case round =>
    clear HI;obtain ⟨k,S,R,y,hk,rfl,HI⟩:=hrel;have hSk:S.length<=k/\R.length<=k:=by
     have h1:=toldF_len b 1 cnt H (E.take k);rw [<- HI.out.2] at h1;simp only [List.length_map,List.length_take] at h1;omega
    by_cases hlt:k<E.length
    ·have hkI:(k:Int)<E.length:=by omega
     obtain ⟨b5,o5,hA5,hb5,hc5⟩:=ev_loads (HEV.out wr (H6.out.2.2.2.trans (HI.out.1.bl.mono H6.out.2.2.2.size))).2.row (by omega)
     have l0:=hc5 k hlt;have htk:E.take (k+1)=E.take k ++ [E.getD k ev0]:=by rw [List.take_add_one,List.getElem?_eq_getElem hlt,Aj _ _ hlt];rfl
     have HTK:=Hd (show Hr b 1 cnt H (E.take (k+1))=Fh b 1 cnt H (Hr b 1 cnt H (E.take k)) (E.getD k ev0).note by rw [htk,toldF_snoc])
     have HTO:=Hd (HSR.out.1 (E.getD k ev0) (Cg ev0 hlt));have HAT:=Hd (fun (X:World) (h:Below w.heap.size w X)=>(HEV.out X h).2.str (E.getD k ev0) (Cg ev0 hlt))
     rw [hA5];have HA5q:=Hd hA5;clear hA5 hc5 htk;generalize E.getD k ev0=ev at *;obtain ⟨q7,hq7⟩:∃ q,wr.heap.size=q:=⟨_,rfl⟩;have s1:=Be (ty:=70) (cs:=ev.cells.toArray) (Aa (w:=wr) (t:=70) (cs:=z70) hq7) (by kernel_rfl) rfl (by rw [<- Array.all_toList,List.all_eq_true];exact fun v hv=>Jr _ v (by simpa using hv))
     have Y7:Bk ((wr.alloc (.cells z70 70)).setRow q7 ev.cells.toArray) q7 70 ev.cells.toArray:=Bj (Aa hq7) _;have hB7:Below wr.heap.size wr ((wr.alloc (.cells z70 70)).setRow q7 ev.cells.toArray):=Aq Ba (by omega) _
     have HI7:=Hd (show Bk ((wr.alloc (.cells z70 70)).setRow q7 ev.cells.toArray) q7 70 ev.cells.toArray/\Gk W3 (pt+1) pt b z 1 gc (b.flr.R*b.flr.S) cnt b.s1 hp S R y ((wr.alloc (.cells z70 70)).setRow q7 ev.cells.toArray)/\(S.map Bh.plain,R)=Hr b 1 cnt H (E.take k) from ⟨Y7,HI.out.1.below hB7,HI.out.2⟩)
     clear Y7 hB7 HI;go_upto_region 19 with fail
     clear s1 l0 hq7;generalize (wr.alloc _).setRow _ _=V at *;have hBV:=H6.out.2.2.2.trans (HI7.out.2.1.bl.mono H6.out.2.2.2.size);have le:=evnote_eq ev HI7.out.1;have l49:=Ct (H6.out.2.1.keep HI7.out.2.1.bl) rfl;have HTE:=Hd (tell_any W3 V (pt+1) pt b z 1 gc (b.flr.R*b.flr.S) cnt b.s1 hp H A1 A2 A3 c1 E.length c2 n3 c3 S R y ev.note HI7.out.2.1 HFR.out (HEV.out V hBV).1.row (by omega) (HAT.out V hBV) HTO.out (by rw [HLC.out];exact HRS.out.1) (by rw [HLC.out];exact Nat.le_trans (Nat.mul_le_mul HRS.out.2.1 HRS.out.2.2) (by decide)) HUP.out (by omega) (by omega))
     unfold Dv at HTE;clear hBV;go_wp2_with (go_at_call 40;refine HTE.out.mono ?_;rintro e w8 ⟨rfl,S2,R2,y2,hI2,he2⟩;rw [HI7.out.2.2,<- HTK.out] at he2;have HEND:=Hd (Ai hI2 he2);clear hI2 he2);go_roundw
     case rel =>
      exact ⟨k+1,S2,R2,y2,by omega,by go_num,HEND⟩
     case measure=>simp [intOf];omega
    ·obtain rfl:k=E.length:=by omega
     rw [List.take_length] at HI;have c33:=HI.out.1.bk.cell 33;have c34:=HI.out.1.bk.cell 34;have c35:=HI.out.1.bk.cell 35;have c36:=HI.out.1.bk.cell 36;simp [Cx] at c33 c34 c35 c36;have hpt5:pt<wr.heap.size:=HI.out.1.bk.lt;have T:=H6.out.2.2.1.keep HI.out.1.bl;have r0:=T.fz 0;have r1:=T.fz 1;have r2:=T.fz 2;have r3:=T.fz 3;have u0:=T.cell 0;have u1:=T.cell 1;have u2:=T.cell 2;have u3:=T.cell 3;have rl:=T.lt;simp at u0 u1 u2 u3;have HT:=Hd T;clear T;go_wp2_with fail;have T:=(((HT.out.put 0 (.slice y.sA b.s1.length y.sc)).put 1 (.slice y.hA hp.length y.hc)).put 2 (.slice y.kA S.length y.kc)).put 3 (.slice y.rA R.length y.rc);have hr3:r<W3.heap.size:=H6.out.2.2.1.lt;have hBf:Below w.heap.size w wr:=H6.out.2.2.2.trans (HI.out.1.bl.mono H6.out.2.2.2.size);have hBg:=(((hBf.setCell (p:=⟨r,0,none⟩) (by simp;omega) (.slice y.sA b.s1.length y.sc)).setCell (p:=⟨r,1,none⟩) (by simp;omega) (.slice y.hA hp.length y.hc)).setCell (p:=⟨r,2,none⟩) (by simp;omega) (.slice y.kA S.length y.kc)).setCell (p:=⟨r,3,none⟩) (by simp;omega) (.slice y.rA R.length y.rc)
     refine bodyPost_ret (v:=.tuple #[.agg (Ap.arr ⟨b.s1,hp,S,R,y.sA,y.sc,y.hA,y.hc,y.kA,y.kc,y.rA,y.rc⟩),.int .i64 0]) (Hm (fn:=Tryz.f18) (p:=6) (q:=7) rfl rfl T rfl Tryz.underlying55 (by kernel_rfl)) rfl ?_
     have hlB:=HI.out.1.lt;refine ⟨hBg,⟨b.s1,hp,S,R,y.sA,y.sc,y.hA,y.hc,y.kA,y.kc,y.rA,y.rc⟩,rfl,⟨own_row4 HI.out.1.ss hr3 _ _ _ _,own_row4 HI.out.1.hs (by omega) _ _ _ _,own_row4 HI.out.1.ks (by omega) _ _ _ _,own_row4 HI.out.1.rs (by omega) _ _ _ _,fun s hs=>?_⟩,⟨rfl,HHE.out,by rw [HI.out.2,HCNT.out]⟩⟩
     obtain ⟨g,hg1,hg2,hg3⟩:=HI.out.1.tm s hs;have hgr:g≠r:=by omega
     have hg4:=(((hg3.far (p:=⟨r,0,none⟩) hgr (.slice y.sA b.s1.length y.sc)).far (p:=⟨r,1,none⟩) hgr (.slice y.hA hp.length y.hc)).far (p:=⟨r,2,none⟩) hgr (.slice y.kA S.length y.kc)).far (p:=⟨r,3,none⟩) hgr (.slice y.rA R.length y.rc);intro _;exact ⟨g,0,hg1,hg4.lt,fun k v hk=>by rw [Nat.zero_add,hg4.cell k];simpa using hk⟩
def ixS (st:Int):Flr->Nat->Nat->Nat->Nat:=if st=0 then Eu else Er
theorem story_any (st:Int) (hst:st=0\/st=1) (b:Al) (z:Df) (H E:List EvD) (A1 A2 A3:Option Addr) (c1 c2 n3 c3:Nat) (w:World) (hb:Fa w b z) (hR:Hk b H E) (r1:Gg w A1 H) (r2:Gg w A2 E) :
  Calls Tryz.prog 18 #[.agg (b.arr z),Dv A1 H.length c1 A2 E.length c2 A3 n3 c3,.int .i64 st] w (StoryQ b st (ixS st) H E w):=by
 rcases hst with rfl | rfl
 ·exact story0_any b z H E A1 A2 A3 c1 c2 n3 c3 w hb hR r1 r2
 ·exact story1_any b z H E A1 A2 A3 c1 c2 n3 c3 w hb hR r1 r2
end Go.Proofs.YteihcodicfoiaaaGreat
