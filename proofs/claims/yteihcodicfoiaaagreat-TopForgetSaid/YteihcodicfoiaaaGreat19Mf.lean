/-
  What is proved: contracts and plain facts that TopForget stands on (StoneOf, LoadB).
-/
import Derived.Test.YteihcodicfoiaaaGreatCloneAMf
import Derived.Test.YteihcodicfoiaaaGreatTOpenMf
import Derived.Test.YteihcodicfoiaaaGreatFewMf
import Derived.Deep.RegionHeld3
import Derived.Deep.RegionWith
import Derived.Test.YteihcodicfoiaaaGreat0Mf
namespace Go.Proofs.YteihcodicfoiaaaGreat
set_option maxRecDepth 100000
set_option maxHeartbeats 8000000
open Go Go.RowKit
section
def pk3 (p:Int×Int×Int):(Int×Int)×Int:=((p.1,p.2.1),p.2.2)
def stnOf (b:Al) (l:List Int):Stn:=⟨b.run,l,b.compass,b.pockets.map pk3,b.tol⟩
theorem pkCells_map (l:List (Int×Int×Int)):pkCells (l.map pk3)=Fk l:=by
 unfold pkCells Fk;rw [List.flatMap_map];rfl
def StoneP (b:Al) (l:List Int) (w:World) (e:Ending) (w':World):Prop :=
 (∃ y:Loc,e=.returned ((stnOf b l).val y)/\StAt w' (stnOf b l) y)/\Below w.heap.size w w'
theorem one_ints (l:List Int):Fo (Ac l):=intCells_one l
theorem one_spans (l:List (Int×Int)):Fo (Am l):=by
 intro u hu;obtain ⟨x,_,hx⟩:=List.mem_flatMap.1 hu;simp at hx;rcases hx with rfl | rfl<;>rfl
theorem one_pockets (l:List (Int×Int×Int)):Fo (Fk l):=by
 intro u hu;obtain ⟨x,_,hx⟩:=List.mem_flatMap.1 hu;simp at hx;rcases hx with rfl | rfl | rfl<;>rfl
theorem Gr (l:List (Int×Int)):(Am l).length=l.length*2:=Ci _ 2 (fun _=>rfl) l
theorem pocketCells_len (l:List (Int×Int×Int)):(Fk l).length=l.length*3:=Ci _ 3 (fun _=>rfl) l
theorem far8 {w:World} {b o b':Nat} {v u0 u1 u2 u3 u4 u5 u6 u7:Value} (h:w.cell? ⟨b,o,none⟩=some v) (hne:b≠b'):((((((((w.setCell ⟨b',0,none⟩ u0).setCell ⟨b',1,none⟩ u1).setCell ⟨b',2,none⟩ u2).setCell ⟨b',3,none⟩ u3).setCell ⟨b',4,none⟩ u4).setCell ⟨b',5,none⟩ u5).setCell ⟨b',6,none⟩ u6).setCell ⟨b',7,none⟩ u7).cell? ⟨b,o,none⟩=some v:=by
 rw [Js hne,Js hne,Js hne,Js hne,Js hne,Js hne,Js hne,Js hne];exact h
theorem stoneOf_any (b:Al) (z:Df) (A:Option Addr) (c:Nat) (l:List Int) (w:World) (hb:Fa w b z) (hf:b.Few) (hL:Ad w A (Ac l)) (hn:l.length<=1000) :
  Calls Tryz.prog 69 #[.agg (b.arr z),.slice A l.length c] w (StoneP b l w):=by
 obtain ⟨W,hW⟩:∃ W,(w.alloc (.cells (b.arr z) 41)).alloc (.cells #[.int .i64 0,.int .i64 0,.int .i64 0,.slice none 0 0,.slice none 0 0,.slice none 0 0,.slice none 0 0,.int .i64 0] 163)=W:=⟨_,rfl⟩;have hbW:Below w.heap.size w W:=by rw [<- hW];exact Ba.alloc (by simp) _
 have X:=(show Bk W w.heap.size 41 (b.arr z) by rw [<- hW];exact (Aa rfl).alloc _)
 have R:=(show Bk W (w.heap.size+1) 163 #[.int .i64 0,.int .i64 0,.int .i64 0,.slice none 0 0,.slice none 0 0,.slice none 0 0,.slice none 0 0,.int .i64 0] by rw [<- hW];exact Aa (by simp))
 have hsW:W.heap.size=w.heap.size+2:=by rw [<- hW];simp
 have HC1:=Hd (fun (X:World) (h:Below w.heap.size w X)=>clone_ints_any z.run.1 z.run.2 b.run.kinds.length (Ac b.run.kinds) X (by have:=hf.rk;omega) (by simp [Ac]) (one_ints _) (hb.run.below h))
 have HC2:=Hd (fun (X:World) (h:Below w.heap.size w X)=>clone_ints_any A c l.length (Ac l) X (by omega) (by simp [Ac]) (one_ints _) (hL.below h))
 have HC3:=Hd (fun (X:World) (h:Below w.heap.size w X)=>clone_points_any z.compass.1 z.compass.2 b.compass.length (Am b.compass) X (by have:=hf.compass;omega) (Gr _) (one_spans _) (hb.compass.below h))
 have HC4:=Hd (fun (X:World) (h:Below w.heap.size w X)=>clone_pockets_any z.pockets.1 z.pockets.2 b.pockets.length (Fk b.pockets) X (by have:=hf.pockets;omega) (pocketCells_len _) (one_pockets _) (hb.pockets.below h))
 have hlen:=Hd (Ai hf.rk (Ai hf.compass (Ai hf.pockets hn)));have x4:=X.cell 4;have x5:=X.cell 5;have x6:=X.cell 6;have x7:=X.cell 7;simp [Al.arr] at x4 x5 x6 x7;have HW:=Hd hW;have HX:=Hd X;have HR:=Hd R;clear hW hb hf hL hn X R;go_enter Tryz.func69,Tryz.ntmps69;go_upto_region 1 with fail
 rw [HW.out];clear HW;go_upto_region 2 with fail
 clear x4 x5 x6 x7;have X:=HX.out.alloc (.cells #[.int .i64 b.run.eye,.int .i64 b.run.rings,.int .i64 b.run.sec,.slice z.run.1 b.run.kinds.length z.run.2] 24);have R:=HR.out.alloc (.cells #[.int .i64 b.run.eye,.int .i64 b.run.rings,.int .i64 b.run.sec,.slice z.run.1 b.run.kinds.length z.run.2] 24);have F:Bk (W.alloc (.cells #[.int .i64 b.run.eye,.int .i64 b.run.rings,.int .i64 b.run.sec,.slice z.run.1 b.run.kinds.length z.run.2] 24)) (w.heap.size+2) 24 #[.int .i64 b.run.eye,.int .i64 b.run.rings,.int .i64 b.run.sec,.slice z.run.1 b.run.kinds.length z.run.2]:=Aa hsW;have hB:=hbW.alloc (by omega) (.cells #[.int .i64 b.run.eye,.int .i64 b.run.rings,.int .i64 b.run.sec,.slice z.run.1 b.run.kinds.length z.run.2] 24)
 generalize W.alloc _=V at *;clear hbW HX HR hsW;have f3:=F.cell 3;simp at f3;have hVs:=F.lt;have HXR:=Hd (Ai X R);clear X R;go_upto_region 3 with (go_at_call 111;refine (HC1.out V hB).mono ?_;rintro e w1 ⟨⟨A1,c1,rfl,r1,g1⟩,hb1⟩;replace F:=F.keep hb1;have hF:=Hd F;have f3':=F.cell 3;have f4:=F.fz 3;have f5:=F.lt;clear F;simp at f3')
 obtain ⟨X,R⟩:=HXR.out;have X1:=(X.keep hb1).far (p:=⟨w.heap.size+2,3,none⟩) (by simp) (.slice A1 b.run.kinds.length c1)
 have R1:=(R.keep hb1).far (p:=⟨w.heap.size+2,3,none⟩) (by simp) (.slice A1 b.run.kinds.length c1)
 have F1:=hF.out.put 3 (.slice A1 b.run.kinds.length c1);have hVl:=R.lt;have r1':=r1.farA (p:=⟨w.heap.size+2,3,none⟩) (fun a ha=>by have:=g1 a ha;simp;omega) (.slice A1 b.run.kinds.length c1)
 have hB1:=(hB.trans (hb1.mono hB.size)).setCell (p:=⟨w.heap.size+2,3,none⟩) (by simp) (.slice A1 b.run.kinds.length c1)
 have G1:=Hd (fun a ha=>show w.heap.size+2<a.block from Nat.lt_of_lt_of_le hVs (g1 a ha))
 clear X R hF r1 g1 hb1 hB f3 f3' f4 f5 HXR hVl HC1;generalize w1.setCell _ _=U at *;have X:=X1;have R:=R1;have F:Bk U (w.heap.size+2) 24 #[.int .i64 b.run.eye,.int .i64 b.run.rings,.int .i64 b.run.sec,.slice A1 b.run.kinds.length c1]:=F1;have r1:=r1';have hB:=hB1;clear X1 R1 F1 r1' hB1 hVs;have x23:=X.cell 23;have x24:=X.cell 24;have x25:=X.cell 25;have f0:=F.cell 0;have f1:=F.cell 1;have f2:=F.cell 2;have f3:=F.cell 3;simp [Al.arr] at x23 x24 x25 f0 f1 f2 f3;have hU:Below w.heap.size w U.drew:=hB.drew;have e0:U.drew.cell? ⟨w.heap.size+2,0,none⟩=some (.int .i64 b.run.eye):=f0;have e1:U.drew.cell? ⟨w.heap.size+2,1,none⟩=some (.int .i64 b.run.rings):=f1;have e2:U.drew.cell? ⟨w.heap.size+2,2,none⟩=some (.int .i64 b.run.sec):=f2;have e3:U.drew.cell? ⟨w.heap.size+2,3,none⟩=some (.slice A1 b.run.kinds.length c1):=f3;have e4:U.drew.cell? ⟨w.heap.size,23,none⟩=some (.slice z.compass.1 b.compass.length z.compass.2):=x23;have e5:U.drew.cell? ⟨w.heap.size,24,none⟩=some (.slice z.pockets.1 b.pockets.length z.pockets.2):=x24;have e6:U.drew.cell? ⟨w.heap.size,25,none⟩=some (.int .i64 b.tol):=x25;have RU:=Hd (show Bk U.drew (w.heap.size+1) 163 _ from R.drew)
 have HALL:=Hd (Ai R (Ai r1 hB));have hne1:w.heap.size+2≠w.heap.size+1:=by omega
 have hUlt:w.heap.size+2<U.heap.size:=F.lt;have hne2:w.heap.size≠w.heap.size+1:=by omega
 clear X R F r1 f0 f1 f2 f3 x23 x24 x25;go_region_held3 (fun w'=>w'.cell? ⟨w.heap.size+2,0,none⟩=some (.int .i64 b.run.eye)/\w'.cell? ⟨w.heap.size+2,1,none⟩=some (.int .i64 b.run.rings)/\w'.cell? ⟨w.heap.size+2,2,none⟩=some (.int .i64 b.run.sec)/\w'.cell? ⟨w.heap.size+2,3,none⟩=some (.slice A1 b.run.kinds.length c1)/\w'.cell? ⟨w.heap.size,23,none⟩=some (.slice z.compass.1 b.compass.length z.compass.2)/\w'.cell? ⟨w.heap.size,24,none⟩=some (.slice z.pockets.1 b.pockets.length z.pockets.2)/\w'.cell? ⟨w.heap.size,25,none⟩=some (.int .i64 b.tol))
  (first | with_reducible exact ⟨far8 (Ag hb4 (Ag hb3 (Ag hb2 e0))) hne1,far8 (Ag hb4 (Ag hb3 (Ag hb2 e1))) hne1,far8 (Ag hb4 (Ag hb3 (Ag hb2 e2))) hne1,far8 (Ag hb4 (Ag hb3 (Ag hb2 e3))) hne1,far8 (Ag hb4 (Ag hb3 (Ag hb2 e4))) hne2,far8 (Ag hb4 (Ag hb3 (Ag hb2 e5))) hne2,far8 (Ag hb4 (Ag hb3 (Ag hb2 e6))) hne2⟩ | with_reducible exact ⟨e0,e1,e2,e3,e4,e5,e6⟩ | with_reducible exact ⟨Ag hb2 e0,Ag hb2 e1,Ag hb2 e2,Ag hb2 e3,Ag hb2 e4,Ag hb2 e5,Ag hb2 e6⟩ | with_reducible exact ⟨Ag hb3 (Ag hb2 e0),Ag hb3 (Ag hb2 e1),Ag hb3 (Ag hb2 e2),Ag hb3 (Ag hb2 e3),Ag hb3 (Ag hb2 e4),Ag hb3 (Ag hb2 e5),Ag hb3 (Ag hb2 e6)⟩ | with_reducible exact ⟨Ag hb4 (Ag hb3 (Ag hb2 e0)),Ag hb4 (Ag hb3 (Ag hb2 e1)),Ag hb4 (Ag hb3 (Ag hb2 e2)),Ag hb4 (Ag hb3 (Ag hb2 e3)),Ag hb4 (Ag hb3 (Ag hb2 e4)),Ag hb4 (Ag hb3 (Ag hb2 e5)),Ag hb4 (Ag hb3 (Ag hb2 e6))⟩)
  (first
  | (go_at_call 111;refine (HC2.out _ hU).mono ?_;rintro e w2 ⟨⟨A2,c2,rfl,r2,g2⟩,hb2⟩)
  | (go_at_call 112;refine (HC3.out _ (hU.trans (hb2.mono hU.size))).mono ?_;rintro e w3 ⟨⟨A3,c3,rfl,r3,g3⟩,hb3⟩)
  | (go_at_call 113;refine (HC4.out _ ((hU.trans (hb2.mono hU.size)).trans (hb3.mono (hU.trans (hb2.mono hU.size)).size))).mono ?_;rintro e w4 ⟨⟨A4,c4,rfl,r4,g4⟩,hb4⟩;have R4:=Bk.keep (Bk.keep (Bk.keep RU.out hb2) hb3) hb4;have k0:=R4.fz 0;have k1:=R4.fz 1;have k2:=R4.fz 2;have k3:=R4.fz 3;have k4:=R4.fz 4;have k5:=R4.fz 5;have k6:=R4.fz 6;have k7:=R4.fz 7;have kl:=R4.lt;have m0:=R4.cell 0;have m1:=R4.cell 1;have m2:=R4.cell 2;have m3:=R4.cell 3;have m4:=R4.cell 4;have m5:=R4.cell 5;have m6:=R4.cell 6;have m7:=R4.cell 7;simp at m0 m1 m2 m3 m4 m5 m6 m7;clear R4))
 ·obtain ⟨R,r1,hB⟩:=HALL.out;have hUs:w.heap.size+2<U.drew.heap.size:=hUlt;have hs2:=hb2.size;have hs3:=hb3.size;have hB4:=(((hU.trans (hb2.mono hU.size)).trans (hb3.mono (hU.trans (hb2.mono hU.size)).size))).trans (hb4.mono (((hU.trans (hb2.mono hU.size)).trans (hb3.mono (hU.trans (hb2.mono hU.size)).size))).size);have R4:=((RU.out.keep hb2).keep hb3).keep hb4;have R8:Bk ((((((((w4.setCell ⟨w.heap.size+1,0,none⟩ (.int .i64 b.run.eye)).setCell ⟨w.heap.size+1,1,none⟩ (.int .i64 b.run.rings)).setCell ⟨w.heap.size+1,2,none⟩ (.int .i64 b.run.sec)).setCell ⟨w.heap.size+1,3,none⟩ (.slice A1 b.run.kinds.length c1)).setCell ⟨w.heap.size+1,4,none⟩ (.slice A2 l.length c2)).setCell ⟨w.heap.size+1,5,none⟩ (.slice A3 b.compass.length c3)).setCell ⟨w.heap.size+1,6,none⟩ (.slice A4 b.pockets.length c4)).setCell ⟨w.heap.size+1,7,none⟩ (.int .i64 b.tol)) (w.heap.size+1) 163 _:=((((((((R4.put 0 (.int .i64 b.run.eye)).put 1 (.int .i64 b.run.rings)).put 2 (.int .i64 b.run.sec)).put 3 (.slice A1 b.run.kinds.length c1)).put 4 (.slice A2 l.length c2)).put 5 (.slice A3 b.compass.length c3)).put 6 (.slice A4 b.pockets.length c4)).put 7 (.int .i64 b.tol));have q1:=((((((((((((((((((r1.drew_.below hb2).below hb3).below hb4).farA (p:=⟨w.heap.size+1,0,none⟩) (fun a ha=>by have:=G1.out a ha;simp;omega) (.int .i64 b.run.eye))).farA (p:=⟨w.heap.size+1,1,none⟩) (fun a ha=>by have:=G1.out a ha;simp;omega) (.int .i64 b.run.rings))).farA (p:=⟨w.heap.size+1,2,none⟩) (fun a ha=>by have:=G1.out a ha;simp;omega) (.int .i64 b.run.sec))).farA (p:=⟨w.heap.size+1,3,none⟩) (fun a ha=>by have:=G1.out a ha;simp;omega) (.slice A1 b.run.kinds.length c1))).farA (p:=⟨w.heap.size+1,4,none⟩) (fun a ha=>by have:=G1.out a ha;simp;omega) (.slice A2 l.length c2))).farA (p:=⟨w.heap.size+1,5,none⟩) (fun a ha=>by have:=G1.out a ha;simp;omega) (.slice A3 b.compass.length c3))).farA (p:=⟨w.heap.size+1,6,none⟩) (fun a ha=>by have:=G1.out a ha;simp;omega) (.slice A4 b.pockets.length c4))).farA (p:=⟨w.heap.size+1,7,none⟩) (fun a ha=>by have:=G1.out a ha;simp;omega) (.int .i64 b.tol))
  have q2:=(((((((((((((((((r2.below hb3).below hb4).farA (p:=⟨w.heap.size+1,0,none⟩) (fun a ha=>by have:=g2 a ha;simp;omega) (.int .i64 b.run.eye))).farA (p:=⟨w.heap.size+1,1,none⟩) (fun a ha=>by have:=g2 a ha;simp;omega) (.int .i64 b.run.rings))).farA (p:=⟨w.heap.size+1,2,none⟩) (fun a ha=>by have:=g2 a ha;simp;omega) (.int .i64 b.run.sec))).farA (p:=⟨w.heap.size+1,3,none⟩) (fun a ha=>by have:=g2 a ha;simp;omega) (.slice A1 b.run.kinds.length c1))).farA (p:=⟨w.heap.size+1,4,none⟩) (fun a ha=>by have:=g2 a ha;simp;omega) (.slice A2 l.length c2))).farA (p:=⟨w.heap.size+1,5,none⟩) (fun a ha=>by have:=g2 a ha;simp;omega) (.slice A3 b.compass.length c3))).farA (p:=⟨w.heap.size+1,6,none⟩) (fun a ha=>by have:=g2 a ha;simp;omega) (.slice A4 b.pockets.length c4))).farA (p:=⟨w.heap.size+1,7,none⟩) (fun a ha=>by have:=g2 a ha;simp;omega) (.int .i64 b.tol))
  have q3:=((((((((((((((((r3.below hb4).farA (p:=⟨w.heap.size+1,0,none⟩) (fun a ha=>by have:=g3 a ha;simp;omega) (.int .i64 b.run.eye))).farA (p:=⟨w.heap.size+1,1,none⟩) (fun a ha=>by have:=g3 a ha;simp;omega) (.int .i64 b.run.rings))).farA (p:=⟨w.heap.size+1,2,none⟩) (fun a ha=>by have:=g3 a ha;simp;omega) (.int .i64 b.run.sec))).farA (p:=⟨w.heap.size+1,3,none⟩) (fun a ha=>by have:=g3 a ha;simp;omega) (.slice A1 b.run.kinds.length c1))).farA (p:=⟨w.heap.size+1,4,none⟩) (fun a ha=>by have:=g3 a ha;simp;omega) (.slice A2 l.length c2))).farA (p:=⟨w.heap.size+1,5,none⟩) (fun a ha=>by have:=g3 a ha;simp;omega) (.slice A3 b.compass.length c3))).farA (p:=⟨w.heap.size+1,6,none⟩) (fun a ha=>by have:=g3 a ha;simp;omega) (.slice A4 b.pockets.length c4))).farA (p:=⟨w.heap.size+1,7,none⟩) (fun a ha=>by have:=g3 a ha;simp;omega) (.int .i64 b.tol))
  have q4:=((((((((((((((((r4).farA (p:=⟨w.heap.size+1,0,none⟩) (fun a ha=>by have:=g4 a ha;simp;omega) (.int .i64 b.run.eye))).farA (p:=⟨w.heap.size+1,1,none⟩) (fun a ha=>by have:=g4 a ha;simp;omega) (.int .i64 b.run.rings))).farA (p:=⟨w.heap.size+1,2,none⟩) (fun a ha=>by have:=g4 a ha;simp;omega) (.int .i64 b.run.sec))).farA (p:=⟨w.heap.size+1,3,none⟩) (fun a ha=>by have:=g4 a ha;simp;omega) (.slice A1 b.run.kinds.length c1))).farA (p:=⟨w.heap.size+1,4,none⟩) (fun a ha=>by have:=g4 a ha;simp;omega) (.slice A2 l.length c2))).farA (p:=⟨w.heap.size+1,5,none⟩) (fun a ha=>by have:=g4 a ha;simp;omega) (.slice A3 b.compass.length c3))).farA (p:=⟨w.heap.size+1,6,none⟩) (fun a ha=>by have:=g4 a ha;simp;omega) (.slice A4 b.pockets.length c4))).farA (p:=⟨w.heap.size+1,7,none⟩) (fun a ha=>by have:=g4 a ha;simp;omega) (.int .i64 b.tol))
  have hB8:=((((((((((((((((hB4).setCell (p:=⟨w.heap.size+1,0,none⟩) (by simp) (.int .i64 b.run.eye))).setCell (p:=⟨w.heap.size+1,1,none⟩) (by simp) (.int .i64 b.run.rings))).setCell (p:=⟨w.heap.size+1,2,none⟩) (by simp) (.int .i64 b.run.sec))).setCell (p:=⟨w.heap.size+1,3,none⟩) (by simp) (.slice A1 b.run.kinds.length c1))).setCell (p:=⟨w.heap.size+1,4,none⟩) (by simp) (.slice A2 l.length c2))).setCell (p:=⟨w.heap.size+1,5,none⟩) (by simp) (.slice A3 b.compass.length c3))).setCell (p:=⟨w.heap.size+1,6,none⟩) (by simp) (.slice A4 b.pockets.length c4))).setCell (p:=⟨w.heap.size+1,7,none⟩) (by simp) (.int .i64 b.tol))
  clear k0 k1 k2 k3 k4 k5 k6 k7 m0 m1 m2 m3 m4 m5 m6 m7 kl R4 RU r1 r2 r3 r4 hB4 e0 e1 e2 e3 e4 e5 e6;have hln:=hlen.out;generalize ((((((((w4.setCell ⟨w.heap.size + 1,0,none⟩ (.int .i64 b.run.eye)).setCell ⟨w.heap.size + 1,1,none⟩ (.int .i64 b.run.rings)).setCell ⟨w.heap.size + 1,2,none⟩ (.int .i64 b.run.sec)).setCell ⟨w.heap.size + 1,3,none⟩ (.slice A1 b.run.kinds.length c1)).setCell ⟨w.heap.size + 1,4,none⟩ (.slice A2 l.length c2)).setCell ⟨w.heap.size + 1,5,none⟩ (.slice A3 b.compass.length c3)).setCell ⟨w.heap.size + 1,6,none⟩ (.slice A4 b.pockets.length c4)).setCell ⟨w.heap.size + 1,7,none⟩ (.int .i64 b.tol))=V8 at *;go_wp2_with fail;have hv:(stnOf b l).val ⟨A1,A2,A3,A4,c1,c2,c3,c4⟩=.agg #[.int .i64 b.run.eye,.int .i64 b.run.rings,.int .i64 b.run.sec,.slice A1 b.run.kinds.length c1,.slice A2 l.length c2,.slice A3 b.compass.length c3,.slice A4 b.pockets.length c4,.int .i64 b.tol]:=by simp [Stn.val,Stn.cells,stnOf]
  refine bodyPost_ret (v:=.agg #[.int .i64 b.run.eye,.int .i64 b.run.rings,.int .i64 b.run.sec,.slice A1 b.run.kinds.length c1,.slice A2 l.length c2,.slice A3 b.compass.length c3,.slice A4 b.pockets.length c4,.int .i64 b.tol]) (results_cell_row rfl _ _ _ 163 _ (0,0) _ rfl R8 Tryz.underlying163 rfl (by kernel_rfl)) rfl ?_
  refine ⟨⟨⟨A1,A2,A3,A4,c1,c2,c3,c4⟩,by rw [hv],q1,q2,q3,?_,?_,?_,?_,?_⟩,hB8⟩
  ·show Ad V8 A4 (pkCells (b.pockets.map pk3))
   rw [pkCells_map];exact q4
  all_goals (simp only [stnOf,List.length_map];omega)
end
section
noncomputable def loadI (t:TypeId) (v:Value):Sem Value:=Instr.loadAt t v
noncomputable def Hb (t:TypeId) (v:Value) (w:World):Result Value:=Sem.run Tryz.prog (loadI t v) w
theorem Bu (t:TypeId) (v:Value) (w:World):Sem.run Tryz.prog (loadI t v) w=Hb t v w:=rfl
theorem Hp (v:Value):Instr.loadAt 41 v=loadI 41 v:=rfl
theorem Cd (v:Value):Instr.loadAt 68 v=loadI 68 v:=rfl
theorem Kg (v:Value):Instr.loadAt 70 v=loadI 70 v:=rfl
theorem Dm (v:Value):Instr.loadAt 49 v=loadI 49 v:=rfl
theorem loadN_eq {ty:TypeId} {w:World} {g:Nat} {t:TypeId} {cs:Array Value} {d:TypeDesc} (h:Bk w g t cs) (hd:(match d with | .struct _ | .array _ _=>true | _=>false)=true) (hu:Tryz.prog.underlying ty=some d) (hi:(Tryz.prog.info? ty).map (·.size)=some cs.size) :
  Hb ty (.pointer (some ⟨g,0,none⟩)) w=.ok (.agg cs) w:=by
 have:=run_loadVar_row (P:=Tryz.prog) w g t ty cs (0,0) d h hu (by cases d<;>simp_all) hi
 unfold Hb loadI;simp only [Instr.loadAt,Instr.sureAddr,Sem.run_bind,Sem.run_pure,Result.andThen_ok,this]
theorem Ce {w:World} {g:Nat} {cs:Array Value} (h:Bk w g 41 cs) (hi:cs.size=28):Hb 41 (.pointer (some ⟨g,0,none⟩)) w=.ok (.agg cs) w :=
 loadN_eq h rfl Tryz.underlying41 (by rw [hi];kernel_rfl)
theorem loadN_at {ty:TypeId} {w:World} {b off:Nat} {cs:List Value} {d:TypeDesc} (h:∀ j u,cs[j]?=some u->w.cell? ⟨b,off+j,none⟩=some u) (hd:(match d with | .struct _ | .array _ _=>true | _=>false)=true) (hu:Tryz.prog.underlying ty=some d) (hi:(Tryz.prog.info? ty).map (·.size)=some cs.length) :
  Hb ty (.pointer (some ⟨b,off,none⟩)) w=.ok (.agg cs.toArray) w:=by
 have hl:(loadCells ⟨b,off,none⟩ cs.length).run Tryz.prog w=.ok cs.toArray w :=
  run_loadCells_list (P:=Tryz.prog) w ⟨b,off,none⟩ cs (fun j v hv=>by rw [De];exact h j v hv)
 cases hq:Tryz.prog.info? ty with
 | none=>simp [hq] at hi
 | some i =>
  have hs:i.size=cs.length:=by simpa [hq] using hi
  have hagg:(isAgg ty).run Tryz.prog w=.ok true w:=by
   unfold isAgg;rw [Sem.run_bind,run_underlying hu w];cases d<;>simp_all
  have hlv:(loadVar ty ⟨b,off,none⟩).run Tryz.prog w=.ok (.agg cs.toArray) w:=by
   simp [loadVar,Sem.run_bind,hagg,sizeOf,typeInfo,hq,hs,hl]
  unfold Hb loadI;simp only [Instr.loadAt,Instr.sureAddr,Sem.run_bind,Sem.run_pure,Result.andThen_ok,hlv]
noncomputable def storeI (t:TypeId) (a v:Value):Sem Unit:=Instr.storeAt t a v
noncomputable def storeN (t:TypeId) (a v:Value) (w:World):Result Unit:=Sem.run Tryz.prog (storeI t a v) w
theorem Dh (t:TypeId) (a v:Value) (w:World):Sem.run Tryz.prog (storeI t a v) w=storeN t a v w:=rfl
theorem Ek (a v:Value):Instr.storeAt 68 a v=storeI 68 a v:=rfl
theorem store_at290 (a v:Value):Instr.storeAt 290 a v=storeI 290 a v:=rfl
theorem store_at70 (a v:Value):Instr.storeAt 70 a v=storeI 70 a v:=rfl
theorem Be {ty:TypeId} {w:World} {g:Nat} {t:TypeId} {old cs:Array Value} (h:Bk w g t old) (hi:(Tryz.prog.info? ty).map (·.size)=some cs.size) (ho:old.size=cs.size) (h1:cs.all (·.oneCell')=true) :
  storeN ty (.pointer (some ⟨g,0,none⟩)) (.agg cs) w=.ok () (w.setRow g cs):=by
 have:=run_storeVar_row (P:=Tryz.prog) w g t ty old cs h hi ho h1;unfold storeN storeI;simp only [Instr.storeAt,Instr.sureAddr,Sem.run_bind,Sem.run_pure,Result.andThen_ok,this]
theorem Bj {w:World} {g:Nat} {t:TypeId} {old:Array Value} (h:Bk w g t old) (cs:Array Value):Bk (w.setRow g cs) g t cs:=setRow_heap w g old cs t (0,0) h
theorem Cy {w:World} {g k:Nat} (h:k≠g) (cs:Array Value):(w.setRow g cs).heap[k]?=w.heap[k]?:=by
 unfold World.setRow;simp only [Array.getElem?_modify];rw [if_neg (Ne.symm h)]
theorem Bk.farRow {w:World} {g q:Nat} {t:TypeId} {old:Array Value} (h:Bk w q t old) (hq:q≠g) (cs:Array Value):Bk (w.setRow g cs) q t old:=(Cy hq cs).trans h
theorem Fi (w:World) (g:Nat) (cs:Array Value):(w.setRow g cs).heap.size=w.heap.size:=by unfold World.setRow;simp
theorem Aq {B:Nat} {a w:World} (h:Below B a w) {g:Nat} (hg:B<=g) (cs:Array Value):Below B a (w.setRow g cs) :=
 ⟨h.os,h.tape,h.output,by rw [Fi];exact h.size,fun k hk=>(Cy (by omega) cs).trans (h.block k hk)⟩
end
end Go.Proofs.YteihcodicfoiaaaGreat
