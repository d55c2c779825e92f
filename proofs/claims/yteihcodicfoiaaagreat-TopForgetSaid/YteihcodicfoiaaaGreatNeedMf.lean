/-
  What is proved: the contract of dressing.Need at one sample.
-/
import Derived.Test.YteihcodicfoiaaaGreatKeepMf
import Derived.BigQuiet
import Derived.Deep.RegionHeld3
import Derived.Deep.DeepCutAuto
namespace Go.Proofs.YteihcodicfoiaaaGreat
set_option maxRecDepth 100000
set_option maxHeartbeats 8000000
open Go Go.RowKit
attribute [local go_sem ↓] Ei Eh
def spCells (l:List (Int×Int)):List Value:=l.flatMap fun x=>[.int .i64 x.1,.int .i64 x.2]
def Gh (lo hi:Int) (s:Int×Int):Bool:=decide (s.1<lo) || decide (s.1 > s.2) || decide (s.2 > hi)
theorem spanBad_any (lo hi:Int) (q1 q2:Nat) (s:Int×Int) (w:World) (h1:Bk w q1 3 #[.int .i64 lo]) (h2:Bk w q2 3 #[.int .i64 hi]) :
  Calls Tryz.prog 99 #[.agg #[.int .i64 s.1,.int .i64 s.2],.pointer (some ⟨q1,0,none⟩),.pointer (some ⟨q2,0,none⟩)] w fun e w'=>e=.returned (.bool (Gh lo hi s))/\Below w.heap.size w w':=by
 obtain ⟨a,b⟩:=s;simp only [Gh];obtain ⟨W,hW⟩:∃ W,w.alloc (.cells #[.int .i64 a,.int .i64 b] 29)=W:=⟨_,rfl⟩;have hbW:Below w.heap.size w W:=by rw [<- hW];exact Ba
 have Y:Bk W w.heap.size 29 #[.int .i64 a,.int .i64 b]:=by rw [<- hW];exact Aa rfl
 have y0:=Y.cell 0;have y1:=Y.cell 1;have x1:=(h1.keep hbW).cell 0;have x2:=(h2.keep hbW).cell 0;simp at y0 y1 x1 x2;have HW:=Hd hW;clear hW Y h1 h2
 by_cases c1:a<lo
 ·go_enter Tryz.func99,Tryz.ntmps99;go_upto_region 1 with fail
  rw [HW.out];clear HW;go_wp2_with fail;go_ret;exact ⟨Af (by simp [c1]),hbW⟩
 ·by_cases c2:b<a
  ·go_enter Tryz.func99,Tryz.ntmps99;go_upto_region 1 with fail
   rw [HW.out];clear HW;go_wp2_with fail;go_ret;exact ⟨Af (by simp [c2]),hbW⟩
  ·go_enter Tryz.func99,Tryz.ntmps99;go_upto_region 1 with fail
   rw [HW.out];clear HW;go_wp2_with fail;go_ret;exact ⟨Af (by simp [show ¬ a<lo by omega,show ¬ b<a by omega]),hbW⟩
def Jk (bad:Int×Int->Bool) (l:List (Int×Int)):Int:=match l.findIdx? bad with | some i=>i | none=>-1
theorem firstSpan_hit (bad:Int×Int->Bool) (l:List (Int×Int)) (k:Nat) (hk:k<l.length) (h:∀ j,j<k->bad (l.getD j (0,0))=false) (hb:bad (l.getD k (0,0))=true):Jk bad l=k:=by
 have e:l.findIdx? bad=some k:=by
  rw [List.findIdx?_eq_some_iff_getElem];refine ⟨hk,by rw [Aj _ _ hk] at hb;exact hb,fun j hj=>?_⟩
  have:=h j hj;rw [Aj _ _ (by omega)] at this
  simp [this]
 simp [Jk,e]
theorem firstSpan_none (bad:Int×Int->Bool) (l:List (Int×Int)) (h:∀ j,j<l.length->bad (l.getD j (0,0))=false):Jk bad l = -1:=by
 have e:l.findIdx? bad=none:=by
  rw [List.findIdx?_eq_none_iff];intro m hm;obtain ⟨j,hj,rfl⟩:=List.getElem_of_mem hm;have:=h j hj;rw [Aj _ _ hj] at this;simp [this]
 simp [Jk,e]
theorem firstSpan_any (bad:Int×Int->Bool) (l:List (Int×Int)):decide (Jk bad l>=0)=l.any bad:=by
 unfold Jk;cases e:l.findIdx? bad with
 | none =>
  rw [List.findIdx?_eq_none_iff] at e;have h:l.any bad=false:=by rw [List.any_eq_false];intro m hm;simpa using e m hm
  simp [h]
 | some i =>
  rw [List.findIdx?_eq_some_iff_getElem] at e;obtain ⟨hi,h1,_⟩:=e;have h:l.any bad=true:=by
   rw [List.any_eq_true];exact ⟨l[i],List.getElem_mem hi,h1⟩
  simp [h]
theorem sp_row {w:World} {A:Option Addr} {l:List (Int×Int)} (h:Ad w A (spCells l)) (h0:0<l.length) :
  ∃ b off,A=some ⟨b,off,none⟩/\b<w.heap.size/\∀ k,k<l.length->w.cell? ⟨b,off+k*2,none⟩=some (.int .i64 (l.getD k (0,0)).1)/\w.cell? ⟨b,off+k*2+1,none⟩=some (.int .i64 (l.getD k (0,0)).2):=by
 have hl:(spCells l).length=l.length*2:=Ci _ 2 (fun _=>rfl) l
 obtain ⟨b,off,h1,h2,h3⟩:=h.some_ (by omega)
 refine ⟨b,off,h1,h2,fun k hk=>?_⟩
 have e:=fun j (hj:j<2)=>Cw (fun x:Int×Int=>[Value.int .i64 x.1,Value.int .i64 x.2]) 2 (fun _=>rfl) (by omega) l k j hk hj
 rw [Aj _ _ hk];refine ⟨h3 _ _ (e 0 (by omega)),?_⟩
 rw [Nat.add_assoc];exact h3 _ _ (e 1 (by omega))
theorem index87_any (lo hi:Int) (q1 q2:Nat) (A:Option Addr) (c:Nat) (l:List (Int×Int)) (w:World) (hL:Ad w A (spCells l)) (h1:Bk w q1 3 #[.int .i64 lo]) (h2:Bk w q2 3 #[.int .i64 hi]) (hn:l.length<=1000) :
  Calls Tryz.prog 149 #[.slice A l.length c,.func (.func 99) #[] #[.pointer (some ⟨q1,0,none⟩),.pointer (some ⟨q2,0,none⟩)]] w fun e w'=>e=.returned (.int .i64 (Jk (Gh lo hi) l))/\Below w.heap.size w w':=by
 have HL:=Hd hL;have HB2:=Hd (fun (x:Int×Int) (X:World) (h:Below w.heap.size w X)=>spanBad_any lo hi q1 q2 x X (h1.keep h) (h2.keep h))
 clear hL h1 h2;have hB0:=Below.refl w.heap.size w;generalize Gh lo hi=bad at *;go_enter Tryz.func149,Tryz.ntmps149;go_wp2_with fail;go_loopw [8] (fun i wr=>∃ k:Nat,k<=l.length/\i=.int .i64 k/\Below w.heap.size w wr/\Hid (∀ j,j<k->bad (l.getD j (0,0))=false)) (fun i _=>l.length - (intOf i).toNat)
 case atStart=>exact ⟨0,Nat.zero_le _,rfl,hB0,fun j h=>absurd h (by omega)⟩
 case round =>
  obtain ⟨k,hk,rfl,hBr,hall⟩:=hrel
  by_cases hlt:k<l.length
  ·obtain ⟨b5,o5,hA,hb5,hc5⟩:=sp_row (HL.out.below hBr) (by omega)
   obtain ⟨c0,c1⟩:=hc5 k hlt;have HALL:=Hd (fun (hg:bad (l.getD k (0,0))=false) j (hj:j<k+1)=>show bad (l.getD j (0,0))=false by
    rcases Nat.lt_or_ge j k with h | h
    ·exact hall.out j h
    ·obtain rfl:j=k:=by omega
     exact hg)
   have HH:=Hd (fun (hg:bad (l.getD k (0,0))=true)=>firstSpan_hit bad l k hlt hall.out hg)
   have HBK:=Hd (HB2.out (l.getD k (0,0)) wr hBr);clear hc5 hall hB0;rw [hA];clear hA;generalize l.getD k (0,0)=x at *;cases hb:bad x
   ·have HX:=Hd hb;rw [hb] at HBK;clear hb;go_wp2_with (go_at_call 99;refine (HBK.out).mono ?_;rintro e w1 ⟨rfl,hb1⟩);have hB1:=hBr.trans (hb1.mono hBr.size);go_roundw
    case rel=>exact ⟨k+1,by omega,by go_num,hB1,HALL.out HX.out⟩
    case measure=>simp [intOf];omega
   ·have HX:=Hd hb;rw [hb] at HBK;clear hb;go_wp2_with (go_at_call 99;refine (HBK.out).mono ?_;rintro e w1 ⟨rfl,hb1⟩);have hB1:=hBr.trans (hb1.mono hBr.size);go_ret;exact ⟨Cb (HH.out HX.out).symm,hB1⟩
  ·have:k=l.length:=by omega
   subst this;have HE:=Hd (firstSpan_none bad l hall.out);clear hall;go_wp2;go_ret;exact ⟨Cb HE.out.symm,hBr⟩
theorem contains74_any (lo hi:Int) (q1 q2:Nat) (A:Option Addr) (c:Nat) (l:List (Int×Int)) (w:World) (hL:Ad w A (spCells l)) (h1:Bk w q1 3 #[.int .i64 lo]) (h2:Bk w q2 3 #[.int .i64 hi]) (hn:l.length<=1000) :
  Calls Tryz.prog 98 #[.slice A l.length c,.func (.func 99) #[] #[.pointer (some ⟨q1,0,none⟩),.pointer (some ⟨q2,0,none⟩)]] w fun e w'=>e=.returned (.bool (l.any (Gh lo hi)))/\Below w.heap.size w w':=by
 have HC:=Hd (index87_any lo hi q1 q2 A c l w hL h1 h2 hn);have HA:=Hd (firstSpan_any (Gh lo hi) l);generalize Jk (Gh lo hi) l=n at *;go_enter Tryz.func98,Tryz.ntmps98;go_wp2_with (go_at_call 149;refine (HC.out).mono ?_;rintro e w1 ⟨rfl,hb1⟩);go_ret;exact ⟨Af HA.out,hb1⟩
theorem spanned_any (lo hi:Int) (A:Option Addr) (c:Nat) (l:List (Int×Int)) (w:World) (hL:Ad w A (spCells l)) (hn:l.length<=1000) :
  Calls Tryz.prog 53 #[.int .i64 lo,.int .i64 hi,.slice A l.length c] w fun e w'=>e=.returned (.bool (!l.any (Gh lo hi)))/\Below w.heap.size w w':=by
 obtain ⟨W,hW⟩:∃ W,(w.alloc (.cells #[.int .i64 lo] 3)).alloc (.cells #[.int .i64 hi] 3)=W:=⟨_,rfl⟩;have hbW:Below w.heap.size w W:=by rw [<- hW];exact Ba.alloc (by simp) _
 have X:=(show Bk W w.heap.size 3 #[.int .i64 lo] by rw [<- hW];exact (Aa rfl).alloc _)
 have Y:=(show Bk W (w.heap.size+1) 3 #[.int .i64 hi] by rw [<- hW];exact Aa (by simp))
 have HC:=Hd (contains74_any lo hi w.heap.size (w.heap.size+1) A c l W (hL.below hbW) X Y hn);have HW:=Hd hW;clear hW X Y hL;generalize l.any (Gh lo hi)=bb at *;go_enter Tryz.func53,Tryz.ntmps53;go_upto_region 1 with fail
 rw [HW.out];clear HW;go_wp2_with (go_at_call 98;refine (HC.out).mono ?_;rintro e w1 ⟨rfl,hb1⟩);go_ret;exact ⟨rfl,hbW.trans (hb1.mono hbW.size)⟩
theorem isHeight_any (A:Option Addr) (c:Nat) (l:List (Int×Int)) (w:World) (hL:Ad w A (spCells l)) (hn:l.length<=1000) :
  Calls Tryz.prog 24 #[.slice A l.length c] w fun e w'=>e=.returned (.bool (!l.any (Gh (-1000000000) 1000000000)))/\Below w.heap.size w w':=by
 have HC:=Hd (spanned_any (-1000000000) 1000000000 A c l w hL hn);generalize l.any (Gh (-1000000000) 1000000000)=bb at *;go_enter Tryz.func24,Tryz.ntmps24;go_wp2_with (go_at_call 53;refine (HC.out).mono ?_;rintro e w1 ⟨rfl,hb1⟩);go_ret;exact ⟨rfl,hb1⟩
theorem isDepth_any (A:Option Addr) (c:Nat) (l:List (Int×Int)) (w:World) (hL:Ad w A (spCells l)) (hn:l.length<=1000) :
  Calls Tryz.prog 25 #[.slice A l.length c] w fun e w'=>e=.returned (.bool (!l.any (Gh 1 1000000000)))/\Below w.heap.size w w':=by
 have HC:=Hd (spanned_any 1 1000000000 A c l w hL hn);generalize l.any (Gh 1 1000000000)=bb at *;go_enter Tryz.func25,Tryz.ntmps25;go_wp2_with (go_at_call 53;refine (HC.out).mono ?_;rintro e w1 ⟨rfl,hb1⟩);go_ret;exact ⟨rfl,hb1⟩
theorem up_42 (w:World):Calls Tryz.prog 26 #[.int .i64 4,.int .i64 2] w fun e w'=>e=.returned (.int .i64 2)/\w=w':=by
 go_enter Tryz.func26,Tryz.ntmps26;go_wp2_with fail;go_ret;exact ⟨rfl,rfl⟩
theorem buildSpans (W:World) (a b c d:Int) :
  (Instr.buildSlice 30 2 #[(0,.agg #[.int .i64 a,.int .i64 b]),(1,.agg #[.int .i64 c,.int .i64 d])]).run Tryz.prog W=.ok (.slice (some ⟨W.heap.size,0,none⟩) 2 2) (W.alloc (.cells #[.int .i64 a,.int .i64 b,.int .i64 c,.int .i64 d] 29)):=by kernel_rfl
theorem buildSpan (W:World) (a b:Int) :
  (Instr.buildSlice 30 1 #[(0,.agg #[.int .i64 a,.int .i64 b])]).run Tryz.prog W=.ok (.slice (some ⟨W.heap.size,0,none⟩) 1 1) (W.alloc (.cells #[.int .i64 a,.int .i64 b] 29)):=by kernel_rfl
theorem need_sample (w:World) :
  Calls Tryz.prog 12 #[.agg #[.int .i64 11,.int .i64 12],.agg #[.int .i64 0,.int .i64 8],.agg #[.int .i64 2,.int .i64 2]] w fun e w'=>e=.returned (.tuple #[.agg #[.int .i64 2,.int .i64 5],.int .i64 0])/\Below w.heap.size w w':=by
 obtain ⟨W,hW⟩:∃ W,(((w.alloc (.cells #[.int .i64 11,.int .i64 12] 29)).alloc (.cells #[.int .i64 0,.int .i64 8] 29)).alloc (.cells #[.int .i64 2,.int .i64 2] 29)).alloc (.cells #[.int .i64 0,.int .i64 0] 29)=W:=⟨_,rfl⟩;have hbW:Below w.heap.size w W:=by rw [<- hW];exact ((Ba.alloc (by simp) _).alloc (by simp;omega) _).alloc (by simp;omega) _
 have A:=(show Bk W w.heap.size 29 #[.int .i64 11,.int .i64 12] by rw [<- hW];exact (((Aa rfl).alloc _).alloc _).alloc _)
 have B:=(show Bk W (w.heap.size+1) 29 #[.int .i64 0,.int .i64 8] by rw [<- hW];exact ((Aa (by simp)).alloc _).alloc _)
 have C:=(show Bk W (w.heap.size+1+1) 29 #[.int .i64 2,.int .i64 2] by rw [<- hW];exact (Aa (by simp)).alloc _)
 have R:=(show Bk W (w.heap.size+1+1+1) 29 #[.int .i64 0,.int .i64 0] by rw [<- hW];exact Aa (by simp))
 have a0:=A.cell 0;have a1:=A.cell 1;have b0:=B.cell 0;have b1:=B.cell 1;simp at a0 a1 b0 b1;have HW:=Hd hW;clear hW;have hb1:Below W.heap.size W (W.alloc (.cells #[.int .i64 11,.int .i64 12,.int .i64 0,.int .i64 8] 29)):=Ba;have P1:Bk (W.alloc (.cells #[.int .i64 11,.int .i64 12,.int .i64 0,.int .i64 8] 29)) W.heap.size 29 #[.int .i64 11,.int .i64 12,.int .i64 0,.int .i64 8]:=Aa rfl;have H26:=Hd (isHeight_any (some ⟨W.heap.size,0,none⟩) 2 [(11,12),(0,8)] _ (fun _=>⟨W.heap.size,0,rfl,P1.lt,fun j u hu=>by rw [P1.cell,Nat.zero_add];simpa [spCells] using hu⟩) (by simp))
 have e26:(!([((11:Int),(12:Int)),(0,8)].any (Gh (-1000000000) 1000000000)))=true:=by decide
 rw [e26] at H26;have M1:=buildSpans W 11 12 0 8;go_enter Tryz.func12,Tryz.ntmps12;go_upto_region 1 with fail
 rw [HW.out];clear HW;go_wp2_with fail;refine (H26.out).mono ?_;clear H26 M1 a0 a1 b0 b1 P1 e26;rintro e w2 ⟨rfl,hb2⟩;have hb12:=hb1.trans (hb2.mono hb1.size);have hB2:=hbW.trans (hb12.mono hbW.size);replace A:=A.keep hb12;replace B:=B.keep hb12;replace C:=C.keep hb12;replace R:=R.keep hb12;clear hb1 hb2 hb12 hbW;have c0:=C.cell 0;have c1:=C.cell 1;simp at c0 c1;have hb1:Below w2.heap.size w2 (w2.alloc (.cells #[.int .i64 2,.int .i64 2] 29)):=Ba;have P1:Bk (w2.alloc (.cells #[.int .i64 2,.int .i64 2] 29)) w2.heap.size 29 #[.int .i64 2,.int .i64 2]:=Aa rfl;have H27:=Hd (isDepth_any (some ⟨w2.heap.size,0,none⟩) 1 [(2,2)] _ (fun _=>⟨w2.heap.size,0,rfl,P1.lt,fun j u hu=>by rw [P1.cell,Nat.zero_add];simpa [spCells] using hu⟩) (by simp))
 have e27:(!([((2:Int),(2:Int))].any (Gh 1 1000000000)))=true:=by decide
 rw [e27] at H27;have M1:=buildSpan w2 2 2;go_wp2_with fail;refine (H27.out).mono ?_;clear H27 M1 c0 c1 P1 e27;rintro e w3 ⟨rfl,hb3⟩;have hb12:=hb1.trans (hb3.mono hb1.size);have hB3:=hB2.trans (hb12.mono hB2.size);replace A:=A.keep hb12;replace B:=B.keep hb12;replace C:=C.keep hb12;replace R:=R.keep hb12;clear hb1 hb3 hb12 hB2;have a0:=A.cell 0;have a1:=A.cell 1;have b0:=B.cell 0;have b1:=B.cell 1;have c0:=C.cell 0;have c1:=C.cell 1;simp at a0 a1 b0 b1 c0 c1;go_upto_region 5 with fail
 have e0:w3.drew.cell? ⟨w.heap.size,0,none⟩=some (.int .i64 11):=a0;have e1:w3.drew.cell? ⟨w.heap.size,1,none⟩=some (.int .i64 12):=a1;have e2:w3.drew.cell? ⟨w.heap.size+1,0,none⟩=some (.int .i64 0):=b0;have e3:w3.drew.cell? ⟨w.heap.size+1,1,none⟩=some (.int .i64 8):=b1;have e4:w3.drew.cell? ⟨w.heap.size+1+1,0,none⟩=some (.int .i64 2):=c0;have e5:w3.drew.cell? ⟨w.heap.size+1+1,1,none⟩=some (.int .i64 2):=c1;have HR:=Hd (Ai R hB3);have hl:=R.lt;clear A B C R hB3;go_region_held3 (fun w'=>w'.cell? ⟨w.heap.size,0,none⟩=some (.int .i64 11)/\w'.cell? ⟨w.heap.size,1,none⟩=some (.int .i64 12)/\w'.cell? ⟨w.heap.size+1,0,none⟩=some (.int .i64 0)/\w'.cell? ⟨w.heap.size+1,1,none⟩=some (.int .i64 8)/\w'.cell? ⟨w.heap.size+1+1,0,none⟩=some (.int .i64 2)/\w'.cell? ⟨w.heap.size+1+1,1,none⟩=some (.int .i64 2))
  (first | with_reducible exact ⟨e0,e1,e2,e3,e4,e5⟩ | with_reducible exact ⟨keepad a0,keepad a1,keepad b0,keepad b1,keepad c0,keepad c1⟩)
  (first | (go_at_call 26;refine (up_42 _).mono ?_;rintro e w' ⟨rfl,rfl⟩))
 all_goals
  have hv:min (IntKind.i64.wrap ((IntKind.i64.wrap 11).tdiv 2)) 100000=5:=by decide
  rw [hv];have hb4:Below w3.heap.size w3 (w3.alloc (.cells #[.int .i64 2,.int .i64 5] 29)).drew:=Ba.drew;have N4:Bk (w3.alloc (.cells #[.int .i64 2,.int .i64 5] 29)).drew w3.heap.size 29 #[.int .i64 2,.int .i64 5]:=Bk.drew (Aa rfl);obtain ⟨R,hB3⟩:=HR.out;replace R:=R.keep hb4;have hB4:=hB3.trans (hb4.mono hB3.size);generalize (w3.alloc (.cells #[.int .i64 2,.int .i64 5] 29)).drew=w4 at *;have n0:=N4.cell 0;have n1:=N4.cell 1;have r0:=R.cell 0;have r1:=R.cell 1;have r2:=R.fz 0;have r3:=R.fz 1;have r4:=R.lt;simp at n0 n1 r0 r1;clear R N4 HR;go_wp2_with fail;refine bodyPost_ret (v:=.tuple #[.agg #[.int .i64 2,.int .i64 5],.int .i64 0]) (by simp [results,Tryz.results12,go_sem,r0,r1,r4]) rfl ⟨rfl,(hB4.setCell (by simp<;>omega) _).setCell (by simp<;>omega) _⟩
end Go.Proofs.YteihcodicfoiaaaGreat
