/-
  What is proved: the contracts of AsOf, at the last day and the last time, and of Fold.
-/
import Derived.Test.YteihcodicfoiaaaGreatRegisterMf
namespace Go.Proofs.YteihcodicfoiaaaGreat
set_option maxRecDepth 100000
set_option maxHeartbeats 8000000
open Go Go.RowKit
theorem strokesB_len {f:FrD} {l:List Int} (h:Fx f l=true):l.length<=200:=by
 unfold Fx inB at h;simp only [Bool.and_eq_true,decide_eq_true_eq] at h;omega
theorem said4_len {f:FrD} {n:Ab} (h:Dd f 4 n=true):n.strokes.length<=200:=by
 unfold Dd at h;simp only [show ¬ ((4:Int)=1) by omega,show ¬ ((4:Int)=2) by omega,show ¬ ((4:Int)=3) by omega,if_false,if_true,Bool.and_eq_true] at h
 exact strokesB_len h.2.2
theorem saidN_same {k:Int} (n:Ab) (h:k≠4):(Az k n).strokes=n.strokes:=by
 unfold Az
 split
 ·rfl
 ·split
  ·rfl
  ·split
   ·rfl
   ·first
    | (split<;>rfl)
    | (rw [if_neg h];split<;>rfl)
theorem formed_ok {f:FrD} {n:Ab} (h:Ar f n=true):NoteOk 99999 n/\n.clock<=1099511627776:=by
 unfold Ar at h;simp only [Bool.and_eq_true] at h;obtain ⟨h1,⟨_,_⟩,h3,h4,h5⟩:=h;have hc:n.clock<=1099511627776:=by unfold inB at h3;simp at h3;exact h3.2
 have hd:n.day<=99999:=by unfold inB at h4;simp at h4;exact h4.2
 have hs:(Fz n).strokes=[]:=by
  unfold Fy at h5;simp only [Bool.and_eq_true,decide_eq_true_eq] at h5;exact h5.2.2.2
 have hfix:n.kind=5->1<=n.fix/\n.fix<=4:=fun hk=>by
  unfold ok1 at h1;rw [if_neg (by omega),if_pos hk] at h1
  simp only [Bool.and_eq_true] at h1;have:=h1.2.2;unfold inB at this
  simpa using this
 refine ⟨⟨hd,hfix,?_⟩,hc⟩
 by_cases k2:n.kind=2
 ·unfold Fz at hs;rw [if_pos k2] at hs;have e:(Az 2 n).strokes=n.strokes:=saidN_same n (by omega)
  have:n.strokes=[]:=e.symm.trans hs;simp [this]
 ·by_cases k5:n.kind=5
  ·unfold Fz at hs;rw [if_neg k2,if_pos k5] at hs;unfold ok1 at h1;rw [if_neg k2,if_pos k5] at h1;simp only [Bool.and_eq_true] at h1;have e5:(Az 5 n).strokes=n.strokes:=saidN_same n (by omega)
   by_cases f4:n.fix=4
   ·have:=h1.2.1;rw [f4] at this;have:=said4_len this
    rwa [e5] at this
   ·have e:(Az n.fix (Az 5 n)).strokes=(Az 5 n).strokes:=saidN_same _ f4;have:n.strokes=[]:=e5.symm.trans (e.symm.trans hs);simp [this]
  ·by_cases k4:n.kind=4
   ·unfold ok1 at h1;rw [if_neg k2,if_neg k5,k4] at h1;exact said4_len h1
   ·unfold Fz at hs;rw [if_neg k2,if_neg k5] at hs;have e:(Az n.kind n).strokes=n.strokes:=saidN_same n k4;have:n.strokes=[]:=e.symm.trans hs;simp [this]
def FoldP (f:FrD) (l:List Ab) (w:World) (e:Ending) (w':World):Prop :=
 Below w.heap.size w w'/\((setB f l=false/\e=.returned (.tuple #[Dv none 0 0 none 0 0 none 0 0,.int .i64 1]))\/
  (setB f l=true/\∃ (L:List Ab) (A1:Option Addr) (c1:Nat) (A2:Option Addr) (c2:Nat) (A3:Option Addr) (n3 c3:Nat),(L.map Ab.plain).Perm (Jv (l.map Ab.plain))/\L.Pairwise Dk/\(L.length<=l.length/\(Bi (L.map Ay)).2.length<=c2)/\(∀ m∈L,1<=m.kind/\m.kind<=4/\m.strokes.length<=200)/\
   Fc w.heap.size w' A1 (Bi (L.map Ay)).1/\Fc w.heap.size w' A2 (Bi (L.map Ay)).2/\e=.returned (.tuple #[Dv A1 (Bi (L.map Ay)).1.length c1 A2 (Bi (L.map Ay)).2.length c2 A3 n3 c3,.int .i64 0])))
attribute [local go_sem ↓] Dm Bu
theorem AsOf_any (f:FrD) (hf:f.Ok) (A:Option Addr) (c:Nat) (l:List Ab) (w:World) (hl:Gm w A l) (hn:l.length<=9223372036854775807) (hs:∀ n∈l,n.strokes.length<=9223372036854775807) :
  Calls Tryz.prog 19 #[f.val,.slice A l.length c,.int .i64 99999,.int .i64 1099511627776] w (FoldP f l w):=by
 obtain ⟨W,hW⟩:∃ W,((w.alloc (.cells #[.int .i64 f.rings,.int .i64 f.sec,.int .i64 f.wide] 45)).alloc (.cells #[.int .i64 1099511627776] 3)).alloc (.cells #[.slice none 0 0,.slice none 0 0,.slice none 0 0] 49)=W:=⟨_,rfl⟩;have hbW:Below w.heap.size w W:=by rw [<- hW];exact (Ba.alloc (by simp) _).alloc (by simp;omega) _
 have X:Bk W w.heap.size 45 #[.int .i64 f.rings,.int .i64 f.sec,.int .i64 f.wide]:=by rw [<- hW];exact ((Aa rfl).alloc _).alloc _
 have Y:Bk W (w.heap.size+1) 3 #[.int .i64 1099511627776]:=by rw [<- hW];exact (Aa (by simp)).alloc _
 have R:Bk W (w.heap.size+1+1) 49 #[.slice none 0 0,.slice none 0 0,.slice none 0 0]:=by rw [<- hW];exact Aa (by simp)
 have HSO:=Hd (setOf_any f hf A c l W (hl.below hbW) hn hs);have x0:=X.cell 0;have x1:=X.cell 1;have x2:=X.cell 2;simp at x0 x1 x2;have HW:=Hd hW;have HX:=Hd (Ai Y (Ai R (Ai hbW hl)));have hg1:w.heap.size<w.heap.size+1+1:=by omega
 have hg2:w.heap.size+1<w.heap.size+1+1:=by omega
 clear hW X Y R hbW hl;unfold FrD.val at *;go_enter Tryz.func19,Tryz.ntmps19;go_upto_region 1 with fail
 rw [HW.out];clear HW;generalize w.heap.size + 1 + 1=pr at *;generalize w.heap.size + 1=pc at *;go_wp2_with fail;refine HSO.out.mono ?_;rintro e w1 ⟨hb1,⟨hok,g,hg,hm,rfl⟩ | ⟨hno,rfl⟩⟩
 ·have HOK:=Hd hok;have hB1:=HX.out.2.2.1.trans (hb1.mono HX.out.2.2.1.size);have Y1:=HX.out.1.keep hb1;have R1:=HX.out.2.1.keep hb1;have HFO:=Hd (fun n (hn:n∈l)=>formed_ok (setB_formed hok n hn))
  have HDE:=Hd (delete_any l 1099511627776 pc g 3 w1 Y1 hm (fun n hn=>by have:=(HFO.out n hn).2;omega))
  have H1:=Hd (Ai hm (Ai hB1 R1));have hlen:=(setB_each hok).1;clear x0 x1 x2 HSO hok hb1 hB1 Y1 R1 hm;go_wp2_with fail;refine HDE.out.mono ?_;rintro e w2 ⟨rfl,hb2⟩;have hm2:=H1.out.1.below hb2;have HSI:=Hd (sit_any l g w2 hm2 (Ka HOK.out) hlen);have H2:=Hd (Ai hm2 (Ai (H1.out.2.1.trans (hb2.mono H1.out.2.1.size)) (H1.out.2.2.keep hb2)));clear hb2 hm2 HDE H1;go_wp2_with fail;refine HSI.out.mono ?_;rintro e w3 ⟨J,D,Av,kv,cv,hsi,hkv,hJ,rfl⟩;obtain ⟨xs,hxs,hxn⟩:=hsi.ow;have hB3:=H2.out.2.1.trans (hsi.bl.mono H2.out.2.1.size);have HRE:=Hd (register_any l (w2.heap.size+1) g w2.heap.size kv cv J Av 99999 w3 hsi.bn hsi.rg.map hsi.mp hJ (Ka HOK.out) hlen (fun n hn=>(HX.out.2.2.2.str n hn).below hB3) (fun n hn=>(HFO.out n hn).1) ⟨_,xs,hxs,hxn⟩ hkv)
  have H3:=Hd (Ai hB3 (H2.out.2.2.keep hsi.bl));have H4:=Hd H3.out.2.lt;have H5:=Hd hB3.size;clear hsi hxs hxn hB3 HSI H2 hJ;generalize w2.heap.size + 1=pb at *;go_wp2_with fail;refine HRE.out.mono ?_;rintro e w4 ⟨L,A1,c1,A2,c2,A3,n3,c3,hperm,hsort,hLl,hkk,hb4,hr1,hr2,rfl⟩;have R4:=H3.out.2.keep hb4;have HE:=Hd (Ai hperm (Ai hsort (Ai hLl (Ai hkk (Ai hr1 (Ai hr2 (Ai (H3.out.1.trans (hb4.mono H3.out.1.size)) R4)))))));have t0:=R4.cell 0;have t1:=R4.cell 1;have t2:=R4.cell 2;have g0:=R4.fz 0;have g1:=R4.fz 1;have g2:=R4.fz 2;have gl:=R4.lt;simp at t0 t1 t2;clear hperm hsort hkk hr1 hr2 hb4 R4 H3 HRE;unfold Dv at *;generalize hH:(Bi (L.map Ay)).1.length=nH at *;generalize hE:(Bi (L.map Ay)).2.length=nE at *;have HH:=Hd (Ai hH hE);clear hH hE;go_wp2_with fail;have T9:=((HE.out.2.2.2.2.2.2.2.put 0 (.slice A1 nH c1)).put 1 (.slice A2 nE c2)).put 2 (.slice A3 n3 c3);have B9:=((HE.out.2.2.2.2.2.2.1.setCell (p:=⟨pr,0,none⟩) (by simp;omega) (.slice A1 nH c1)).setCell (p:=⟨pr,1,none⟩) (by simp;omega) (.slice A2 nE c2)).setCell (p:=⟨pr,2,none⟩) (by simp;omega) (.slice A3 n3 c3)
  have hpw:pr<w3.heap.size:=H4.out;have E1:=((HE.out.2.2.2.2.1.far hpw HE.out.2.2.2.2.2.2.2 (by decide) 0 (.slice A1 nH c1)).far hpw (HE.out.2.2.2.2.2.2.2.put 0 _) (by decide) 1 (.slice A2 nE c2)).far hpw ((HE.out.2.2.2.2.2.2.2.put 0 _).put 1 _) (by decide) 2 (.slice A3 n3 c3)
  have E2:=((HE.out.2.2.2.2.2.1.far hpw HE.out.2.2.2.2.2.2.2 (by decide) 0 (.slice A1 nH c1)).far hpw (HE.out.2.2.2.2.2.2.2.put 0 _) (by decide) 1 (.slice A2 nE c2)).far hpw ((HE.out.2.2.2.2.2.2.2.put 0 _).put 1 _) (by decide) 2 (.slice A3 n3 c3)
  clear t0 t1 t2 g0 g1 g2 gl;generalize ((w4.setCell _ _).setCell _ _).setCell _ _=F at *;have e0:=T9.cell 0;have e1:=T9.cell 1;have e2:=T9.cell 2;have e3:=T9.lt;simp at e0 e1 e2;refine bodyPost_ret (v:=.tuple #[.agg #[.slice A1 nH c1,.slice A2 nE c2,.slice A3 n3 c3],.int .i64 0]) (by simp [results,Tryz.results19,go_sem,e0,e1,e2,e3]) rfl ?_
  refine ⟨B9,.inr ⟨HOK.out,L,A1,c1,A2,c2,A3,n3,c3,HE.out.1,HE.out.2.1,⟨HE.out.2.2.1.1,by first | exact HE.out.2.2.1.2 | (rw [HH.out.2];exact HE.out.2.2.1.2)⟩,HE.out.2.2.2.1,E1.mono H5.out,E2.mono H5.out,?_⟩⟩
  rw [HH.out.1,HH.out.2];rfl
 ·have hB1:=HX.out.2.2.1.trans (hb1.mono HX.out.2.2.1.size);have R1:=HX.out.2.1.keep hb1;have HE:=Hd (Ai hno (Ai hB1 R1));have t0:=R1.cell 0;have t1:=R1.cell 1;have t2:=R1.cell 2;have g0:=R1.fz 0;have g1:=R1.fz 1;have g2:=R1.fz 2;have gl:=R1.lt;simp at t0 t1 t2;clear x0 x1 x2 HSO hno hb1 hB1 R1;go_wp2_with fail;have T9:=((HE.out.2.2.put 0 (.slice none 0 0)).put 1 (.slice none 0 0)).put 2 (.slice none 0 0);have B9:=((HE.out.2.1.setCell (p:=⟨pr,0,none⟩) (by simp;omega) (.slice none 0 0)).setCell (p:=⟨pr,1,none⟩) (by simp;omega) (.slice none 0 0)).setCell (p:=⟨pr,2,none⟩) (by simp;omega) (.slice none 0 0)
  clear t0 t1 t2 g0 g1 g2 gl;generalize ((w1.setCell _ _).setCell _ _).setCell _ _=F at *;have e0:=T9.cell 0;have e1:=T9.cell 1;have e2:=T9.cell 2;have e3:=T9.lt;simp at e0 e1 e2;refine bodyPost_ret (v:=.tuple #[Dv none 0 0 none 0 0 none 0 0,.int .i64 1]) (by simp [results,Tryz.results19,go_sem,e0,e1,e2,e3,Dv]) rfl ?_
  exact ⟨B9,.inl ⟨HE.out.1,rfl⟩⟩
theorem Fold_any (f:FrD) (hf:f.Ok) (A:Option Addr) (c:Nat) (l:List Ab) (w:World) (hl:Gm w A l) (hn:l.length<=9223372036854775807) (hs:∀ n∈l,n.strokes.length<=9223372036854775807) :
  Calls Tryz.prog 9 #[f.val,.slice A l.length c] w (FoldP f l w):=by
 obtain ⟨W,hW⟩:∃ W,(w.alloc (.cells #[.int .i64 f.rings,.int .i64 f.sec,.int .i64 f.wide] 45)).alloc (.cells #[.slice none 0 0,.slice none 0 0,.slice none 0 0] 49)=W:=⟨_,rfl⟩;have hbW:Below w.heap.size w W:=by rw [<- hW];exact Ba.alloc (by simp) _
 have X:Bk W w.heap.size 45 #[.int .i64 f.rings,.int .i64 f.sec,.int .i64 f.wide]:=by rw [<- hW];exact (Aa rfl).alloc _
 have R:Bk W (w.heap.size+1) 49 #[.slice none 0 0,.slice none 0 0,.slice none 0 0]:=by rw [<- hW];exact Aa (by simp)
 have HA:=Hd (AsOf_any f hf A c l W (hl.below hbW) hn hs);have x0:=X.cell 0;have x1:=X.cell 1;have x2:=X.cell 2;simp at x0 x1 x2;have HW:=Hd hW;have HX:=Hd (Ai R hbW);have hg1:w.heap.size<w.heap.size+1:=by omega
 have hgW:w.heap.size+1<W.heap.size:=R.lt;clear hW X R hbW hl;unfold FrD.val at *;go_enter Tryz.func9,Tryz.ntmps9;go_upto_region 1 with fail
 rw [HW.out];clear HW;generalize w.heap.size + 1=pr at *;go_wp2_with fail;refine HA.out.mono ?_;rintro e w1 ⟨hb1,⟨hno,rfl⟩ | ⟨hok,L,A1,c1,A2,c2,A3,n3,c3,hperm,hsort,hLl,hkk,hr1,hr2,rfl⟩⟩
 ·have hB1:=HX.out.2.trans (hb1.mono HX.out.2.size);have R1:=HX.out.1.keep hb1;have HE:=Hd (Ai hno (Ai hB1 R1));have t0:=R1.cell 0;have t1:=R1.cell 1;have t2:=R1.cell 2;have g0:=R1.fz 0;have g1:=R1.fz 1;have g2:=R1.fz 2;have gl:=R1.lt;simp at t0 t1 t2;clear x0 x1 x2 HA hno hb1 hB1 R1;unfold Dv;go_wp2_with fail;have T9:=((HE.out.2.2.put 0 (.slice none 0 0)).put 1 (.slice none 0 0)).put 2 (.slice none 0 0);have B9:=((HE.out.2.1.setCell (p:=⟨pr,0,none⟩) (by simp;omega) (.slice none 0 0)).setCell (p:=⟨pr,1,none⟩) (by simp;omega) (.slice none 0 0)).setCell (p:=⟨pr,2,none⟩) (by simp;omega) (.slice none 0 0)
  clear t0 t1 t2 g0 g1 g2 gl;generalize ((w1.setCell _ _).setCell _ _).setCell _ _=F at *;have e0:=T9.cell 0;have e1:=T9.cell 1;have e2:=T9.cell 2;have e3:=T9.lt;simp at e0 e1 e2;refine bodyPost_ret (v:=.tuple #[Dv none 0 0 none 0 0 none 0 0,.int .i64 1]) (by simp [results,Tryz.results9,go_sem,e0,e1,e2,e3,Dv]) rfl ?_
  exact ⟨B9,.inl ⟨HE.out.1,rfl⟩⟩
 ·have hB1:=HX.out.2.trans (hb1.mono HX.out.2.size);have R1:=HX.out.1.keep hb1;have HE:=Hd (Ai hperm (Ai hsort (Ai hLl (Ai hkk (Ai hr1 (Ai hr2 (Ai hB1 R1)))))));have HOK:=Hd hok;have H5:=Hd HX.out.2.size;have t0:=R1.cell 0;have t1:=R1.cell 1;have t2:=R1.cell 2;have g0:=R1.fz 0;have g1:=R1.fz 1;have g2:=R1.fz 2;have gl:=R1.lt;simp at t0 t1 t2;clear x0 x1 x2 HA hperm hsort hkk hr1 hr2 hb1 hB1 R1 hok;unfold Dv at *;generalize hH:(Bi (L.map Ay)).1.length=nH at *;generalize hE:(Bi (L.map Ay)).2.length=nE at *;have HH:=Hd (Ai hH hE);clear hH hE;go_wp2_with fail;have T9:=((HE.out.2.2.2.2.2.2.2.put 0 (.slice A1 nH c1)).put 1 (.slice A2 nE c2)).put 2 (.slice A3 n3 c3);have B9:=((HE.out.2.2.2.2.2.2.1.setCell (p:=⟨pr,0,none⟩) (by simp;omega) (.slice A1 nH c1)).setCell (p:=⟨pr,1,none⟩) (by simp;omega) (.slice A2 nE c2)).setCell (p:=⟨pr,2,none⟩) (by simp;omega) (.slice A3 n3 c3)
  have E1:=((HE.out.2.2.2.2.1.far hgW HE.out.2.2.2.2.2.2.2 (by decide) 0 (.slice A1 nH c1)).far hgW (HE.out.2.2.2.2.2.2.2.put 0 _) (by decide) 1 (.slice A2 nE c2)).far hgW ((HE.out.2.2.2.2.2.2.2.put 0 _).put 1 _) (by decide) 2 (.slice A3 n3 c3)
  have E2:=((HE.out.2.2.2.2.2.1.far hgW HE.out.2.2.2.2.2.2.2 (by decide) 0 (.slice A1 nH c1)).far hgW (HE.out.2.2.2.2.2.2.2.put 0 _) (by decide) 1 (.slice A2 nE c2)).far hgW ((HE.out.2.2.2.2.2.2.2.put 0 _).put 1 _) (by decide) 2 (.slice A3 n3 c3)
  clear t0 t1 t2 g0 g1 g2 gl;generalize ((w1.setCell _ _).setCell _ _).setCell _ _=F at *;have e0:=T9.cell 0;have e1:=T9.cell 1;have e2:=T9.cell 2;have e3:=T9.lt;simp at e0 e1 e2;refine bodyPost_ret (v:=.tuple #[.agg #[.slice A1 nH c1,.slice A2 nE c2,.slice A3 n3 c3],.int .i64 0]) (by simp [results,Tryz.results9,go_sem,e0,e1,e2,e3]) rfl ?_
  refine ⟨B9,.inr ⟨HOK.out,L,A1,c1,A2,c2,A3,n3,c3,HE.out.1,HE.out.2.1,⟨HE.out.2.2.1.1,by first | exact HE.out.2.2.1.2 | (rw [HH.out.2];exact HE.out.2.2.1.2)⟩,HE.out.2.2.2.1,E1.mono H5.out,E2.mono H5.out,?_⟩⟩
  rw [HH.out.1,HH.out.2];rfl
end Go.Proofs.YteihcodicfoiaaaGreat
