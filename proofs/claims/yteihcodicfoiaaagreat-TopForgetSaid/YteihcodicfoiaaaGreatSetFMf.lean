/-
  What is proved: the contract of the law's setOf.
-/
import Derived.Test.YteihcodicfoiaaaGreatFoldMf
import Derived.Test.YteihcodicfoiaaaGreat21Mf
import Derived.Test.YteihcodicfoiaaaGreatFewMf
namespace Go.Proofs.YteihcodicfoiaaaGreat
set_option maxRecDepth 100000
set_option maxHeartbeats 16000000
open Go Go.RowKit
structure SetR (b:Al) (l L:List Ab) (H E:List EvD):Prop where
 chk:Fw b
 few:b.Few
 set:setB b.fr l=true
 len:l.length<=30
 perm:(L.map Ab.plain).Perm (Jv (l.map Ab.plain))
 sort:L.Pairwise Dk
 kind:∀ m∈L,1<=m.kind/\m.kind<=4/\m.strokes.length<=200
 hh:H=(Bi (L.map Ay)).1
 ee:E=(Bi (L.map Ay)).2
 h8:H.length<=8
 e10:E.length<=10
 hn:heapN H<=12
 st:∀ e∈E,e.note.strokes.length<=100
def SetFP (b:Al) (l:List Ab) (w:World) (e:Ending) (w':World):Prop :=
 Below w.heap.size w w'/\∃ (fr:FrD) (A1:Option Addr) (n1 c1:Nat) (A2:Option Addr) (n2 c2:Nat) (A3:Option Addr) (n3 c3:Nat) (ok:Bool),e=.returned (.tuple #[fr.val,Dv A1 n1 c1 A2 n2 c2 A3 n3 c3,.bool ok])/\
  (ok=true->fr=b.fr/\∃ (L:List Ab) (H E:List EvD),SetR b l L H E/\n1=H.length/\n2=E.length/\Fc w.heap.size w' A1 H/\Fc w.heap.size w' A2 E/\E.length<=c2)
theorem evReg_mem (L:List Ab):(∀ e∈(Bi (L.map Ay)).1,∃ m∈L,e=Ay m)/\(∀ e∈(Bi (L.map Ay)).2,∃ m∈L,e=Ay m):=by
 rw [evReg_note];have h:=fun x=>reg_mem L ([],[]) x
 refine ⟨fun e he=>?_,fun e he=>?_⟩
 ·obtain ⟨x,hx,rfl⟩:=List.mem_map.1 he;rcases (h x).1 hx with g | g
  ·cases g
  ·exact ⟨x,g,rfl⟩
 ·obtain ⟨x,hx,rfl⟩:=List.mem_map.1 he;rcases (h x).2 hx with g | g
  ·cases g
  ·exact ⟨x,g,rfl⟩
theorem fr_ok {b:Al} (h:Fw b):b.fr.Ok:=by
 obtain ⟨⟨hf,_,_⟩,hr⟩:=h;have hb:=(faces_of hf).1;simp only [Fac.ok,Bool.and_eq_true,inB,decide_eq_true_eq,beq_iff_eq,List.all_eq_true] at hb;simp only [restB,restC,Bool.and_eq_true,inB,decide_eq_true_eq] at hr;refine ⟨?_,?_,?_,?_,?_,?_⟩<;>simp only [Al.fr]<;>omega
theorem heldS {U:World} {q2 q7 q9:Nat} {b:Al} {z:Df} {x0 x1 x2 y0 y1 y2:Value} (Q7:Bk U q7 45 #[x0,x1,x2]) (Q9:Bk U q9 49 #[y0,y1,y2]) (X:Bk U q2 41 (b.arr z)) :
  U.cell? ⟨q7,0,none⟩=some x0/\U.cell? ⟨q7,1,none⟩=some x1/\U.cell? ⟨q7,2,none⟩=some x2/\U.cell? ⟨q9,0,none⟩=some y0/\U.cell? ⟨q9,1,none⟩=some y1/\U.cell? ⟨q9,2,none⟩=some y2/\Hb 41 (.pointer (some ⟨q2,0,none⟩)) U=.ok (.agg (b.arr z)) U :=
 ⟨Q7.cell 0,Q7.cell 1,Q7.cell 2,Q9.cell 0,Q9.cell 1,Q9.cell 2,Ce X rfl⟩
theorem Bk.far33 {U:World} {q p t:Nat} {cs:Array Value} {x0 x1 x2:Value} (h:Bk U q t cs) (hne:q≠p):Bk (((U.setCell ⟨p,0,none⟩ x0).setCell ⟨p,1,none⟩ x1).setCell ⟨p,2,none⟩ x2) q t cs:=((h.far (p:=⟨p,0,none⟩) hne _).far (p:=⟨p,1,none⟩) hne _).far (p:=⟨p,2,none⟩) hne _
attribute [local go_sem ↓] Hp Bu
theorem setF_any (b:Al) (z:Df) (A:Option Addr) (c:Nat) (l:List Ab) (w:World) (hb:Fa w b z) (hl:Gm w A l) (hn:l.length<=9223372036854775807) (hs:∀ n∈l,n.strokes.length<=9223372036854775807)
  (hr:b.reach.length<=9223372036854775807) (hd:b.drive.length<=9223372036854775807)
  (hrr:∀ k,k<b.reach.length->(b.reach.getD k []).length<=9223372036854775807) (hdd:∀ k,k<b.drive.length->(b.drive.getD k []).length<=9223372036854775807) :
  Calls Tryz.prog 6 #[.agg (b.arr z),.slice A l.length c] w (SetFP b l w):=by
 obtain ⟨W,hW⟩:∃ W,((w.alloc (.cells (b.arr z) 41)).alloc (.cells #[.int .i64 0,.int .i64 0,.int .i64 0] 45)).alloc (.cells #[.slice none 0 0,.slice none 0 0,.slice none 0 0] 49)=W:=⟨_,rfl⟩;have hbW:Below w.heap.size w W:=by rw [<- hW];exact (Ba.alloc (by simp) _).alloc (by simp;omega) _
 have X:Bk W w.heap.size 41 (b.arr z):=by rw [<- hW];exact ((Aa rfl).alloc _).alloc _
 have P4:Bk W (w.heap.size+1) 45 #[.int .i64 0,.int .i64 0,.int .i64 0]:=by rw [<- hW];exact (Aa (by simp)).alloc _
 have P5:Bk W (w.heap.size+1+1) 49 #[.slice none 0 0,.slice none 0 0,.slice none 0 0]:=by rw [<- hW];exact Aa (by simp)
 have HX:=Hd (Ai X (Ai P4 (Ai P5 hbW)));have HFE:=Hd (fun (V:World) (h:Below w.heap.size w V) (A1 A2 A3:Option Addr) (c1 c2 n3 c3:Nat) (H E:List EvD) (hH:Ad V A1 (Ak H)) (hE:Ad V A2 (Ak E)) (hs:∀ e∈E,e.note.strokes.length<=1000) (hHl:H.length<=9223372036854775807) =>
  few_any b z A1 A2 A3 c1 c2 n3 c3 H E V (hb.below h) hH hE hs hHl hr hd hrr hdd)
 have HFR:=Hd (fun (V:World) (h:Below w.heap.size w V) (hf:b.Few)=>FrameOf_any b z V (hb.below h) hf)
 have HFO:=Hd (fun (V:World) (h:Below w.heap.size w V) (hc:Fw b)=>Fold_any b.fr (fr_ok hc) A c l V (hl.below h) hn hs)
 have HF0:=Hd (HFE.out W hbW none none none 0 0 0 0 [] [] (fun h=>by simp [Ak] at h) (fun h=>by simp [Ak] at h) (fun e h=>by cases h) (by simp))
 have l0:=Ce X rfl;have HW:=Hd hW;have hp1:w.heap.size<w.heap.size+1:=by omega
 have hp2:w.heap.size+1<w.heap.size+1+1:=by omega
 have hp3:w.heap.size+1+1<W.heap.size:=P5.lt;have HLN:=Hd hn;clear hW X P4 P5 hbW hb hl hn hs hr hd hrr hdd;unfold Dv at HF0;simp only [List.length_nil] at HF0;go_enter Tryz.func6,Tryz.ntmps6;go_upto_region 1 with fail
 rw [HW.out];clear HW;generalize w.heap.size + 1 + 1=p5 at *;generalize w.heap.size + 1=p4 at *
 by_cases h30:30<l.length
 ·have h30I:(30:Int)<l.length:=by omega
  have R4:=HX.out.2.1;have R5:=HX.out.2.2.1;have t0:=R4.cell 0;have t1:=R4.cell 1;have t2:=R4.cell 2;have u0:=R5.cell 0;have u1:=R5.cell 1;have u2:=R5.cell 2;have g0:=R4.fz 0;have g1:=R4.fz 1;have g2:=R4.fz 2;have gl:=R4.lt;have k0:=R5.fz 0;have k1:=R5.fz 1;have k2:=R5.fz 2;have kl:=R5.lt;simp at t0 t1 t2 u0 u1 u2;have HE:=Hd (Ai R4 (Ai R5 (HX.out.2.2.2)));clear R4 R5;clear l0 HF0;go_wp2_with fail;have T9:=(((((HE.out.1.put 0 (.int .i64 0)).put 1 (.int .i64 0)).put 2 (.int .i64 0)).far (p:=⟨p5,0,none⟩) (by simp;omega) (.slice none 0 0)).far (p:=⟨p5,1,none⟩) (by simp;omega) (.slice none 0 0)).far (p:=⟨p5,2,none⟩) (by simp;omega) (.slice none 0 0)
  have T8:=(((((HE.out.2.1.far (p:=⟨p4,0,none⟩) (by simp;omega) (.int .i64 0)).far (p:=⟨p4,1,none⟩) (by simp;omega) (.int .i64 0)).far (p:=⟨p4,2,none⟩) (by simp;omega) (.int .i64 0)).put 0 (.slice none 0 0)).put 1 (.slice none 0 0)).put 2 (.slice none 0 0)
  have B9:=(((((HE.out.2.2.setCell (p:=⟨p4,0,none⟩) (by simp;omega) (.int .i64 0)).setCell (p:=⟨p4,1,none⟩) (by simp;omega) (.int .i64 0)).setCell (p:=⟨p4,2,none⟩) (by simp;omega) (.int .i64 0)).setCell (p:=⟨p5,0,none⟩) (by simp;omega) (.slice none 0 0)).setCell (p:=⟨p5,1,none⟩) (by simp;omega) (.slice none 0 0)).setCell (p:=⟨p5,2,none⟩) (by simp;omega) (.slice none 0 0)
  clear t0 t1 t2 u0 u1 u2 g0 g1 g2 gl k0 k1 k2 kl;generalize (((((World.setCell _ ⟨p4,0,none⟩ _).setCell ⟨p4,1,none⟩ _).setCell ⟨p4,2,none⟩ _).setCell ⟨p5,0,none⟩ _).setCell ⟨p5,1,none⟩ _).setCell ⟨p5,2,none⟩ _=F at *;have e0:=T9.cell 0;have e1:=T9.cell 1;have e2:=T9.cell 2;have e3:=T9.lt;have e4:=T8.cell 0;have e5:=T8.cell 1;have e6:=T8.cell 2;have e7:=T8.lt;simp at e0 e1 e2 e4 e5 e6;refine bodyPost_ret (v:=.tuple #[.agg #[.int .i64 0,.int .i64 0,.int .i64 0],.agg #[.slice none 0 0,.slice none 0 0,.slice none 0 0],.bool false]) (by simp [results,Tryz.results6,go_sem,e0,e1,e2,e3,e4,e5,e6,e7]) rfl ?_
  exact ⟨B9,⟨0,0,0⟩,none,0,0,none,0,0,none,0,0,false,rfl,fun h=>by cases h⟩
 ·have h30I:¬ (30:Int)<l.length:=by omega
  go_wp2_with fail;refine HF0.out.mono ?_;rintro e w1 ⟨hb1,v,rfl,hv⟩;have hB1:=HX.out.2.2.2.trans (hb1.mono HX.out.2.2.2.size);have H1:=Hd (Ai (HX.out.1.keep hb1) (Ai (HX.out.2.1.keep hb1) (Ai (HX.out.2.2.1.keep hb1) hB1)));have hs1:p5<w1.heap.size:=H1.out.2.2.1.lt;clear hb1 hB1 l0 HF0;cases v with
  | false =>
   clear hv;have R4:=H1.out.2.1;have R5:=H1.out.2.2.1;have t0:=R4.cell 0;have t1:=R4.cell 1;have t2:=R4.cell 2;have u0:=R5.cell 0;have u1:=R5.cell 1;have u2:=R5.cell 2;have g0:=R4.fz 0;have g1:=R4.fz 1;have g2:=R4.fz 2;have gl:=R4.lt;have k0:=R5.fz 0;have k1:=R5.fz 1;have k2:=R5.fz 2;have kl:=R5.lt;simp at t0 t1 t2 u0 u1 u2;have HE:=Hd (Ai R4 (Ai R5 (H1.out.2.2.2)));clear R4 R5;go_wp2_with fail;have T9:=(((((HE.out.1.put 0 (.int .i64 0)).put 1 (.int .i64 0)).put 2 (.int .i64 0)).far (p:=⟨p5,0,none⟩) (by simp;omega) (.slice none 0 0)).far (p:=⟨p5,1,none⟩) (by simp;omega) (.slice none 0 0)).far (p:=⟨p5,2,none⟩) (by simp;omega) (.slice none 0 0)
   have T8:=(((((HE.out.2.1.far (p:=⟨p4,0,none⟩) (by simp;omega) (.int .i64 0)).far (p:=⟨p4,1,none⟩) (by simp;omega) (.int .i64 0)).far (p:=⟨p4,2,none⟩) (by simp;omega) (.int .i64 0)).put 0 (.slice none 0 0)).put 1 (.slice none 0 0)).put 2 (.slice none 0 0)
   have B9:=(((((HE.out.2.2.setCell (p:=⟨p4,0,none⟩) (by simp;omega) (.int .i64 0)).setCell (p:=⟨p4,1,none⟩) (by simp;omega) (.int .i64 0)).setCell (p:=⟨p4,2,none⟩) (by simp;omega) (.int .i64 0)).setCell (p:=⟨p5,0,none⟩) (by simp;omega) (.slice none 0 0)).setCell (p:=⟨p5,1,none⟩) (by simp;omega) (.slice none 0 0)).setCell (p:=⟨p5,2,none⟩) (by simp;omega) (.slice none 0 0)
   clear t0 t1 t2 u0 u1 u2 g0 g1 g2 gl k0 k1 k2 kl;generalize (((((World.setCell _ ⟨p4,0,none⟩ _).setCell ⟨p4,1,none⟩ _).setCell ⟨p4,2,none⟩ _).setCell ⟨p5,0,none⟩ _).setCell ⟨p5,1,none⟩ _).setCell ⟨p5,2,none⟩ _=F at *;have e0:=T9.cell 0;have e1:=T9.cell 1;have e2:=T9.cell 2;have e3:=T9.lt;have e4:=T8.cell 0;have e5:=T8.cell 1;have e6:=T8.cell 2;have e7:=T8.lt;simp at e0 e1 e2 e4 e5 e6;refine bodyPost_ret (v:=.tuple #[.agg #[.int .i64 0,.int .i64 0,.int .i64 0],.agg #[.slice none 0 0,.slice none 0 0,.slice none 0 0],.bool false]) (by simp [results,Tryz.results6,go_sem,e0,e1,e2,e3,e4,e5,e6,e7]) rfl ?_
   exact ⟨B9,⟨0,0,0⟩,none,0,0,none,0,0,none,0,0,false,rfl,fun h=>by cases h⟩
  | true =>
   have hfew:=(hv rfl).1;have HFE2:=Hd hfew;have HFR1:=Hd (HFR.out w1 H1.out.2.2.2 hfew);have l1:=Ce H1.out.1 rfl;clear hv hfew;go_wp2_with fail;refine HFR1.out.mono ?_;rintro e w2 ⟨hb2,⟨hok,rfl⟩ | ⟨hno,rfl⟩⟩
   ·have HOK:=Hd hok;unfold FrD.val;have hB2:=H1.out.2.2.2.trans (hb2.mono H1.out.2.2.2.size);have hb3:Below w2.heap.size w2 (w2.alloc (.cells #[.int .i64 b.fr.rings,.int .i64 b.fr.sec,.int .i64 b.fr.wide] 45)):=Ba;have Q7:Bk (w2.alloc (.cells #[.int .i64 b.fr.rings,.int .i64 b.fr.sec,.int .i64 b.fr.wide] 45)) w2.heap.size 45 #[.int .i64 b.fr.rings,.int .i64 b.fr.sec,.int .i64 b.fr.wide]:=Aa rfl;have HF2:=Hd (HFO.out _ (hB2.trans (hb3.mono hB2.size)) hok);have H2:=Hd (Ai ((H1.out.1.keep hb2).keep hb3) (Ai ((H1.out.2.1.keep hb2).keep hb3) (Ai ((H1.out.2.2.1.keep hb2).keep hb3) (Ai (hB2.trans (hb3.mono hB2.size)) Q7))));have hs2:=hb2.size;unfold FrD.val at HF2;clear hok hb2 hb3 hB2 Q7 HFR1 l1 H1;go_wp2_with fail;generalize w2.alloc _=V1 at *;have hs3:w2.heap.size<V1.heap.size:=H2.out.2.2.2.2.lt;generalize w2.heap.size=q7 at *;refine HF2.out.mono ?_;rintro e w4 ⟨hb4,⟨hno,rfl⟩ | ⟨hset,L,A1,c1,A2,c2,A3,n3,c3,hperm,hsort,hLl,hkk,hr1,hr2,rfl⟩⟩
    ·have hb5:Below w4.heap.size w4 (w4.alloc (.cells #[.slice none 0 0,.slice none 0 0,.slice none 0 0] 49)):=Ba;have Q9:Bk (w4.alloc (.cells #[.slice none 0 0,.slice none 0 0,.slice none 0 0] 49)) w4.heap.size 49 #[.slice none 0 0,.slice none 0 0,.slice none 0 0]:=Aa rfl;have hB5:=(H2.out.2.2.2.1.trans (hb4.mono H2.out.2.2.2.1.size)).trans (hb5.mono (H2.out.2.2.2.1.trans (hb4.mono H2.out.2.2.2.1.size)).size);have Q7:=(H2.out.2.2.2.2.keep hb4).keep hb5;have hs4:=hb4.size;have HQ:=Hd (Ai Q7 Q9);have hq9:w4.heap.size<(w4.alloc (.cells #[.slice none 0 0,.slice none 0 0,.slice none 0 0] 49)).heap.size:=Q9.lt;unfold Dv;have R4:=(H2.out.2.1.keep hb4).keep hb5;have R5:=(H2.out.2.2.1.keep hb4).keep hb5;have t0:=R4.cell 0;have t1:=R4.cell 1;have t2:=R4.cell 2;have u0:=R5.cell 0;have u1:=R5.cell 1;have u2:=R5.cell 2;have g0:=R4.fz 0;have g1:=R4.fz 1;have g2:=R4.fz 2;have gl:=R4.lt;have k0:=R5.fz 0;have k1:=R5.fz 1;have k2:=R5.fz 2;have kl:=R5.lt;simp at t0 t1 t2 u0 u1 u2;have HE:=Hd (Ai R4 (Ai R5 (hB5)));clear R4 R5;clear hb4 hb5 hB5 Q7 Q9 HF2 hno H2;go_upto_region 7 with fail
     generalize w4.alloc _=V5 at *;generalize w4.heap.size=q9 at *;have d0:=HQ.out.1.cell 0;have d1:=HQ.out.1.cell 1;have d2:=HQ.out.1.cell 2;have f0:=HQ.out.2.cell 0;have f1:=HQ.out.2.cell 1;have f2:=HQ.out.2.cell 2;simp at d0 d1 d2 f0 f1 f2;go_region
     all_goals
      go_wp2_with fail;clear d0 d1 d2 f0 f1 f2;have T9:=(((((HE.out.1.put 0 (.int .i64 b.fr.rings)).put 1 (.int .i64 b.fr.sec)).put 2 (.int .i64 b.fr.wide)).far (p:=⟨p5,0,none⟩) (by simp;omega) (.slice none 0 0)).far (p:=⟨p5,1,none⟩) (by simp;omega) (.slice none 0 0)).far (p:=⟨p5,2,none⟩) (by simp;omega) (.slice none 0 0)
      have T8:=(((((HE.out.2.1.far (p:=⟨p4,0,none⟩) (by simp;omega) (.int .i64 b.fr.rings)).far (p:=⟨p4,1,none⟩) (by simp;omega) (.int .i64 b.fr.sec)).far (p:=⟨p4,2,none⟩) (by simp;omega) (.int .i64 b.fr.wide)).put 0 (.slice none 0 0)).put 1 (.slice none 0 0)).put 2 (.slice none 0 0)
      have B9:=(((((HE.out.2.2.setCell (p:=⟨p4,0,none⟩) (by simp;omega) (.int .i64 b.fr.rings)).setCell (p:=⟨p4,1,none⟩) (by simp;omega) (.int .i64 b.fr.sec)).setCell (p:=⟨p4,2,none⟩) (by simp;omega) (.int .i64 b.fr.wide)).setCell (p:=⟨p5,0,none⟩) (by simp;omega) (.slice none 0 0)).setCell (p:=⟨p5,1,none⟩) (by simp;omega) (.slice none 0 0)).setCell (p:=⟨p5,2,none⟩) (by simp;omega) (.slice none 0 0)
      clear t0 t1 t2 u0 u1 u2 g0 g1 g2 gl k0 k1 k2 kl;replace T9:=T9.drew;replace T8:=T8.drew;replace B9:=B9.drew;generalize World.drew ((((((World.setCell _ ⟨p4,0,none⟩ _).setCell ⟨p4,1,none⟩ _).setCell ⟨p4,2,none⟩ _).setCell ⟨p5,0,none⟩ _).setCell ⟨p5,1,none⟩ _).setCell ⟨p5,2,none⟩ _)=F at *;have e0:=T9.cell 0;have e1:=T9.cell 1;have e2:=T9.cell 2;have e3:=T9.lt;have e4:=T8.cell 0;have e5:=T8.cell 1;have e6:=T8.cell 2;have e7:=T8.lt;simp at e0 e1 e2 e4 e5 e6;refine bodyPost_ret (v:=.tuple #[.agg #[.int .i64 b.fr.rings,.int .i64 b.fr.sec,.int .i64 b.fr.wide],.agg #[.slice none 0 0,.slice none 0 0,.slice none 0 0],.bool false]) (by simp [results,Tryz.results6,go_sem,e0,e1,e2,e3,e4,e5,e6,e7]) rfl ?_
      exact ⟨B9,b.fr,none,0,0,none,0,0,none,0,0,false,rfl,fun h=>by cases h⟩
    ·have HC2:=Hd hLl.2;replace hLl:=hLl.1;have HS4:=Hd (Ai hset (Ai hperm (Ai hsort hkk)));obtain ⟨HH,hHH⟩:∃ x,(Bi (L.map Ay)).1=x:=⟨_,rfl⟩;obtain ⟨EE,hEE⟩:∃ x,(Bi (L.map Ay)).2=x:=⟨_,rfl⟩;rw [hHH] at hr1 ⊢;rw [hEE] at hr2 ⊢;have hlH:HH.length<=8:=by rw [<- hHH];exact (evReg_len _).1
     have hsE:∀ e∈EE,e.note.strokes.length<=200:=fun e he=>by
      rw [<- hEE] at he;obtain ⟨m,hm,rfl⟩:=(evReg_mem L).2 e he;exact (hkk m hm).2.2
     have HHE:=Hd (Ai hHH hEE);clear hHH hEE hset hperm hsort hkk;have hb5:Below w4.heap.size w4 (w4.alloc (.cells #[.slice A1 HH.length c1,.slice A2 EE.length c2,.slice A3 n3 c3] 49)):=Ba;have Q9:Bk (w4.alloc (.cells #[.slice A1 HH.length c1,.slice A2 EE.length c2,.slice A3 n3 c3] 49)) w4.heap.size 49 #[.slice A1 HH.length c1,.slice A2 EE.length c2,.slice A3 n3 c3]:=Aa rfl;have hB5:=(H2.out.2.2.2.1.trans (hb4.mono H2.out.2.2.2.1.size)).trans (hb5.mono (H2.out.2.2.2.1.trans (hb4.mono H2.out.2.2.2.1.size)).size);have hs4:=hb4.size;have HQ:=Hd (Ai ((H2.out.2.2.2.2.keep hb4).keep hb5) (Ai Q9 (Ai ((H2.out.1.keep hb4).keep hb5) (Ai ((H2.out.2.1.keep hb4).keep hb5) (Ai ((H2.out.2.2.1.keep hb4).keep hb5) (Ai hB5 (Ai (hr1.below hb5) (hr2.below hb5))))))));have HF4:=Hd (HFE.out _ hB5.drew A1 A2 A3 c1 c2 n3 c3 HH EE (Ad.drew_ (hr1.below hb5).row.row) (Ad.drew_ (hr2.below hb5).row.row) (fun e he=>by have:=hsE e he;omega) (by omega))
     unfold Dv at *;have hq9:w4.heap.size<(w4.alloc (.cells #[.slice A1 HH.length c1,.slice A2 EE.length c2,.slice A3 n3 c3] 49)).heap.size:=Q9.lt;clear hb4 hb5 hB5 Q9 HF2 H2 hr1 hr2 hsE;go_upto_region 7 with fail
     generalize w4.alloc _=V5 at *;generalize w4.heap.size=q9 at *;have d0:=HQ.out.1.cell 0;have d1:=HQ.out.1.cell 1;have d2:=HQ.out.1.cell 2;have f0:=HQ.out.2.1.cell 0;have f1:=HQ.out.2.1.cell 1;have f2:=HQ.out.2.1.cell 2;simp at d0 d1 d2 f0 f1 f2;have hS0:=heldS (U:=V5.drew) HQ.out.1 HQ.out.2.1 HQ.out.2.2.1;have n7:q7≠p4:=by omega
     have n8:q7≠p5:=by omega
     have n9:q9≠p4:=by omega
     have n10:q9≠p5:=by omega
     have n11:w.heap.size≠p4:=by omega
     have n12:w.heap.size≠p5:=by omega
     clear d0 d1 d2 f0 f1 f2;go_region_held3 (fun w'=>w'.cell? ⟨q7,0,none⟩=some (.int .i64 b.fr.rings)/\w'.cell? ⟨q7,1,none⟩=some (.int .i64 b.fr.sec)/\w'.cell? ⟨q7,2,none⟩=some (.int .i64 b.fr.wide)/\w'.cell? ⟨q9,0,none⟩=some (.slice A1 HH.length c1)/\w'.cell? ⟨q9,1,none⟩=some (.slice A2 EE.length c2)/\w'.cell? ⟨q9,2,none⟩=some (.slice A3 n3 c3)/\Hb 41 (.pointer (some ⟨w.heap.size,0,none⟩)) w'=.ok (.agg (b.arr z)) w')
      (first | with_reducible exact hS0 | with_reducible exact hS1 | with_reducible exact hS2 | with_reducible exact hS3)
      (first
      | (go_at_call 16;refine HF4.out.mono ?_;rintro e w6 ⟨hb6,v,rfl,hv⟩;have HV:=Hd hv;clear hv;have HB6:=Hd (show Below V5.heap.size V5 w6 from (Below.refl _ V5).drew.trans hb6);clear hb6;have hS1:=heldS (HQ.out.1.keep HB6.out) (HQ.out.2.1.keep HB6.out) (HQ.out.2.2.1.keep HB6.out);have hS2:=heldS ((HQ.out.1.keep HB6.out).far33 (p:=p4) (x0:=.int .i64 b.fr.rings) (x1:=.int .i64 b.fr.sec) (x2:=.int .i64 b.fr.wide) n7) ((HQ.out.2.1.keep HB6.out).far33 (p:=p4) (x0:=.int .i64 b.fr.rings) (x1:=.int .i64 b.fr.sec) (x2:=.int .i64 b.fr.wide) n9) ((HQ.out.2.2.1.keep HB6.out).far33 (p:=p4) (x0:=.int .i64 b.fr.rings) (x1:=.int .i64 b.fr.sec) (x2:=.int .i64 b.fr.wide) n11);have hS3:=heldS (((HQ.out.1.keep HB6.out).far33 (p:=p4) (x0:=.int .i64 b.fr.rings) (x1:=.int .i64 b.fr.sec) (x2:=.int .i64 b.fr.wide) n7).far33 (p:=p5) (x0:=.slice A1 HH.length c1) (x1:=.slice A2 EE.length c2) (x2:=.slice A3 n3 c3) n8) (((HQ.out.2.1.keep HB6.out).far33 (p:=p4) (x0:=.int .i64 b.fr.rings) (x1:=.int .i64 b.fr.sec) (x2:=.int .i64 b.fr.wide) n9).far33 (p:=p5) (x0:=.slice A1 HH.length c1) (x1:=.slice A2 EE.length c2) (x2:=.slice A3 n3 c3) n10) (((HQ.out.2.2.1.keep HB6.out).far33 (p:=p4) (x0:=.int .i64 b.fr.rings) (x1:=.int .i64 b.fr.sec) (x2:=.int .i64 b.fr.wide) n11).far33 (p:=p5) (x0:=.slice A1 HH.length c1) (x1:=.slice A2 EE.length c2) (x2:=.slice A3 n3 c3) n12);have R4:=HQ.out.2.2.2.1.keep HB6.out;have R5:=HQ.out.2.2.2.2.1.keep HB6.out;have t0:=R4.cell 0;have t1:=R4.cell 1;have t2:=R4.cell 2;have u0:=R5.cell 0;have u1:=R5.cell 1;have u2:=R5.cell 2;have g0:=R4.fz 0;have g1:=R4.fz 1;have g2:=R4.fz 2;have gl:=R4.lt;have k0:=R5.fz 0;have k1:=R5.fz 1;have k2:=R5.fz 2;have kl:=R5.lt;simp at t0 t1 t2 u0 u1 u2;have HE:=Hd (Ai R4 (Ai R5 (HQ.out.2.2.2.2.2.1.trans (HB6.out.mono HQ.out.2.2.2.2.2.1.size))));clear R4 R5))
     go_wp2_with fail;have T9:=(((((HE.out.1.put 0 (.int .i64 b.fr.rings)).put 1 (.int .i64 b.fr.sec)).put 2 (.int .i64 b.fr.wide)).far (p:=⟨p5,0,none⟩) (by simp;omega) (.slice A1 HH.length c1)).far (p:=⟨p5,1,none⟩) (by simp;omega) (.slice A2 EE.length c2)).far (p:=⟨p5,2,none⟩) (by simp;omega) (.slice A3 n3 c3)
     have T8:=(((((HE.out.2.1.far (p:=⟨p4,0,none⟩) (by simp;omega) (.int .i64 b.fr.rings)).far (p:=⟨p4,1,none⟩) (by simp;omega) (.int .i64 b.fr.sec)).far (p:=⟨p4,2,none⟩) (by simp;omega) (.int .i64 b.fr.wide)).put 0 (.slice A1 HH.length c1)).put 1 (.slice A2 EE.length c2)).put 2 (.slice A3 n3 c3)
     have B9:=(((((HE.out.2.2.setCell (p:=⟨p4,0,none⟩) (by simp;omega) (.int .i64 b.fr.rings)).setCell (p:=⟨p4,1,none⟩) (by simp;omega) (.int .i64 b.fr.sec)).setCell (p:=⟨p4,2,none⟩) (by simp;omega) (.int .i64 b.fr.wide)).setCell (p:=⟨p5,0,none⟩) (by simp;omega) (.slice A1 HH.length c1)).setCell (p:=⟨p5,1,none⟩) (by simp;omega) (.slice A2 EE.length c2)).setCell (p:=⟨p5,2,none⟩) (by simp;omega) (.slice A3 n3 c3)
     have hv1:p5<V1.heap.size:=by omega
     have hv0:p4<V1.heap.size:=by omega
     have hnp:p5≠p4:=by omega
     have R5b:=(((HE.out.2.1.far (p:=⟨p4,0,none⟩) (by simp;omega) (.int .i64 b.fr.rings)).far (p:=⟨p4,1,none⟩) (by simp;omega) (.int .i64 b.fr.sec)).far (p:=⟨p4,2,none⟩) (by simp;omega) (.int .i64 b.fr.wide))
     have E1:=((((((HQ.out.2.2.2.2.2.2.1.below HB6.out).far hv0 HE.out.1 (by decide) 0 (.int .i64 b.fr.rings)).far hv0 (HE.out.1.put 0 _) (by decide) 1 (.int .i64 b.fr.sec)).far hv0 ((HE.out.1.put 0 _).put 1 _) (by decide) 2 (.int .i64 b.fr.wide)).far hv1 R5b (by decide) 0 (.slice A1 HH.length c1)).far hv1 (R5b.put 0 _) (by decide) 1 (.slice A2 EE.length c2)).far hv1 ((R5b.put 0 _).put 1 _) (by decide) 2 (.slice A3 n3 c3)
     have E2:=((((((HQ.out.2.2.2.2.2.2.2.below HB6.out).far hv0 HE.out.1 (by decide) 0 (.int .i64 b.fr.rings)).far hv0 (HE.out.1.put 0 _) (by decide) 1 (.int .i64 b.fr.sec)).far hv0 ((HE.out.1.put 0 _).put 1 _) (by decide) 2 (.int .i64 b.fr.wide)).far hv1 R5b (by decide) 0 (.slice A1 HH.length c1)).far hv1 (R5b.put 0 _) (by decide) 1 (.slice A2 EE.length c2)).far hv1 ((R5b.put 0 _).put 1 _) (by decide) 2 (.slice A3 n3 c3)
     clear R5b hS0 hS1 hS2 hS3;clear t0 t1 t2 u0 u1 u2 g0 g1 g2 gl k0 k1 k2 kl;generalize (((((World.setCell _ ⟨p4,0,none⟩ _).setCell ⟨p4,1,none⟩ _).setCell ⟨p4,2,none⟩ _).setCell ⟨p5,0,none⟩ _).setCell ⟨p5,1,none⟩ _).setCell ⟨p5,2,none⟩ _=F at *;have e0:=T9.cell 0;have e1:=T9.cell 1;have e2:=T9.cell 2;have e3:=T9.lt;have e4:=T8.cell 0;have e5:=T8.cell 1;have e6:=T8.cell 2;have e7:=T8.lt;simp at e0 e1 e2 e4 e5 e6;refine bodyPost_ret (v:=.tuple #[.agg #[.int .i64 b.fr.rings,.int .i64 b.fr.sec,.int .i64 b.fr.wide],.agg #[.slice A1 HH.length c1,.slice A2 EE.length c2,.slice A3 n3 c3],.bool v]) (by simp [results,Tryz.results6,go_sem,e0,e1,e2,e3,e4,e5,e6,e7]) rfl ?_
     exact ⟨B9,b.fr,A1,HH.length,c1,A2,EE.length,c2,A3,n3,c3,v,rfl,fun h=>⟨rfl,L,HH,EE,⟨HOK.out,HFE2.out,HS4.out.1,by omega,HS4.out.2.1,HS4.out.2.2.1,HS4.out.2.2.2,HHE.out.1.symm,HHE.out.2.symm,hlH,(HV.out h).2.2.1,(HV.out h).2.2.2.1,(HV.out h).2.2.2.2⟩,rfl,rfl,E1.mono (by omega),E2.mono (by omega),(by first | exact HC2.out | (rw [<- HHE.out.2];exact HC2.out))⟩⟩
   ·have hB2:=H1.out.2.2.2.trans (hb2.mono H1.out.2.2.2.size);have hb3:Below w2.heap.size w2 (w2.alloc (.cells #[.int .i64 0,.int .i64 0,.int .i64 0] 45)):=Ba;have hs2:=hb2.size;unfold FrD.val;have R4:=(H1.out.2.1.keep hb2).keep hb3;have R5:=(H1.out.2.2.1.keep hb2).keep hb3;have t0:=R4.cell 0;have t1:=R4.cell 1;have t2:=R4.cell 2;have u0:=R5.cell 0;have u1:=R5.cell 1;have u2:=R5.cell 2;have g0:=R4.fz 0;have g1:=R4.fz 1;have g2:=R4.fz 2;have gl:=R4.lt;have k0:=R5.fz 0;have k1:=R5.fz 1;have k2:=R5.fz 2;have kl:=R5.lt;simp at t0 t1 t2 u0 u1 u2;have HE:=Hd (Ai R4 (Ai R5 (hB2.trans (hb3.mono hB2.size))));clear R4 R5;clear hb2 hb3 hB2 HFR1 l1 hno;go_wp2_with fail;have T9:=(((((HE.out.1.put 0 (.int .i64 0)).put 1 (.int .i64 0)).put 2 (.int .i64 0)).far (p:=⟨p5,0,none⟩) (by simp;omega) (.slice none 0 0)).far (p:=⟨p5,1,none⟩) (by simp;omega) (.slice none 0 0)).far (p:=⟨p5,2,none⟩) (by simp;omega) (.slice none 0 0)
    have T8:=(((((HE.out.2.1.far (p:=⟨p4,0,none⟩) (by simp;omega) (.int .i64 0)).far (p:=⟨p4,1,none⟩) (by simp;omega) (.int .i64 0)).far (p:=⟨p4,2,none⟩) (by simp;omega) (.int .i64 0)).put 0 (.slice none 0 0)).put 1 (.slice none 0 0)).put 2 (.slice none 0 0)
    have B9:=(((((HE.out.2.2.setCell (p:=⟨p4,0,none⟩) (by simp;omega) (.int .i64 0)).setCell (p:=⟨p4,1,none⟩) (by simp;omega) (.int .i64 0)).setCell (p:=⟨p4,2,none⟩) (by simp;omega) (.int .i64 0)).setCell (p:=⟨p5,0,none⟩) (by simp;omega) (.slice none 0 0)).setCell (p:=⟨p5,1,none⟩) (by simp;omega) (.slice none 0 0)).setCell (p:=⟨p5,2,none⟩) (by simp;omega) (.slice none 0 0)
    clear t0 t1 t2 u0 u1 u2 g0 g1 g2 gl k0 k1 k2 kl;generalize (((((World.setCell _ ⟨p4,0,none⟩ _).setCell ⟨p4,1,none⟩ _).setCell ⟨p4,2,none⟩ _).setCell ⟨p5,0,none⟩ _).setCell ⟨p5,1,none⟩ _).setCell ⟨p5,2,none⟩ _=F at *;have e0:=T9.cell 0;have e1:=T9.cell 1;have e2:=T9.cell 2;have e3:=T9.lt;have e4:=T8.cell 0;have e5:=T8.cell 1;have e6:=T8.cell 2;have e7:=T8.lt;simp at e0 e1 e2 e4 e5 e6;refine bodyPost_ret (v:=.tuple #[.agg #[.int .i64 0,.int .i64 0,.int .i64 0],.agg #[.slice none 0 0,.slice none 0 0,.slice none 0 0],.bool false]) (by simp [results,Tryz.results6,go_sem,e0,e1,e2,e3,e4,e5,e6,e7]) rfl ?_
    exact ⟨B9,⟨0,0,0⟩,none,0,0,none,0,0,none,0,0,false,rfl,fun h=>by cases h⟩
end Go.Proofs.YteihcodicfoiaaaGreat
