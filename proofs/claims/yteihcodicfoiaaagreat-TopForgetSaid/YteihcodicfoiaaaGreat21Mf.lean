/-
  What is proved: contracts and plain facts that TopForget stands on (Frame1, FrameO, MapF, BF, FoldP, Names, Content).
-/
import Derived.Test.YteihcodicfoiaaaGreat0Mf
import Derived.Test.YteihcodicfoiaaaGreat8Mf
import Derived.Test.YteihcodicfoiaaaGreatCheckBMf
import Derived.Below
import Derived.Test.YteihcodicfoiaaaGreat2Mf
import Derived.Test.YteihcodicfoiaaaGreat19Mf
namespace Go.Proofs.YteihcodicfoiaaaGreat
set_option maxRecDepth 100000
set_option maxHeartbeats 4000000
open Go Go.RowKit
section
structure FrD where
 rings:Int
 sec:Int
 wide:Int
def FrD.val (f:FrD):Value:=.agg #[.int .i64 f.rings,.int .i64 f.sec,.int .i64 f.wide]
structure FrD.Ok (f:FrD):Prop where
 r0:1<=f.rings
 r1:f.rings<=24
 s0:2<=f.sec
 s1:f.sec<=96
 w0:1<=f.wide
 w1:f.wide<=f.sec
theorem FrD.Ok.mul {f:FrD} (h:f.Ok):2<=f.rings*f.sec/\f.rings*f.sec<=2304:=by
 have h1:=h.r0;have h2:=h.r1;have h3:=h.s0;have h4:=h.s1;have a:1*f.sec<=f.rings*f.sec:=Int.mul_le_mul_of_nonneg_right h1 (by omega)
 have b:f.rings*f.sec<=24*96:=Int.mul_le_mul h2 h4 (by omega) (by omega)
 omega
theorem fvalid_any (f:FrD) (hf:f.Ok) (w:World):Calls Tryz.prog 127 #[f.val] w fun e w'=>e=.returned (.bool true)/\Below w.heap.size w w':=by
 obtain ⟨r0,r1,s0,s1,w0,w1⟩:=hf;have q1:inB f.rings 1 24=true:=by simp [inB];omega
 have q2:inB f.sec 2 96=true:=by simp [inB];omega
 have q3:inB f.wide 1 f.sec=true:=by simp [inB];omega
 unfold FrD.val;obtain ⟨W,hW⟩:∃ W,w.alloc (.cells #[.int .i64 f.rings,.int .i64 f.sec,.int .i64 f.wide] 112)=W:=⟨_,rfl⟩;have hbW:Below w.heap.size w W:=by rw [<- hW];exact Ba
 have X:=(show Bk W w.heap.size 112 #[.int .i64 f.rings,.int .i64 f.sec,.int .i64 f.wide] by rw [<- hW];exact Aa rfl)
 have x0:=X.cell 0;have x1:=X.cell 1;have x2:=X.cell 2;simp at x0 x1 x2;have HW:=Hd hW;clear hW X r0 r1 s0 s1 w0 w1;go_enter Tryz.func127,Tryz.ntmps127;go_upto_region 1 with fail
 rw [HW.out];clear HW;go_wp2_with (go_at_call 36;refine (Bm _ _ _ _).mono ?_;rintro e w1 ⟨rfl,rfl⟩;first | rw [q1] | rw [q2] | rw [q3])
 go_ret;exact ⟨rfl,hbW⟩
theorem fcell_any (f:FrD) (hf:f.Ok) (n:Int) (w:World):Calls Tryz.prog 161 #[f.val,.int .i64 n] w fun e w'=>e=.returned (.bool (inB n 0 (f.rings*f.sec - 1)))/\Below w.heap.size w w':=by
 have hm:=hf.mul;have hw1:=IntWalk.i64_in (f.rings*f.sec) (by omega)
 have hw2:=IntWalk.i64_in (f.rings*f.sec - 1) (by omega)
 unfold FrD.val;obtain ⟨W,hW⟩:∃ W,w.alloc (.cells #[.int .i64 f.rings,.int .i64 f.sec,.int .i64 f.wide] 112)=W:=⟨_,rfl⟩;have hbW:Below w.heap.size w W:=by rw [<- hW];exact Ba
 have X:=(show Bk W w.heap.size 112 #[.int .i64 f.rings,.int .i64 f.sec,.int .i64 f.wide] by rw [<- hW];exact Aa rfl)
 have x0:=X.cell 0;have x1:=X.cell 1;simp at x0 x1;have HW:=Hd hW;clear hW X hf;go_enter Tryz.func161,Tryz.ntmps161;go_upto_region 1 with fail
 rw [HW.out];clear HW;go_wp2_with (go_at_call 36;refine (Bm _ _ _ _).mono ?_;rintro e w1 ⟨rfl,rfl⟩);go_ret;exact ⟨rfl,hbW⟩
def sBad (f:FrD) (l:List Int) (k:Nat):Bool:=!inB (l.getD k 0) 0 (f.sec - f.wide) || (decide (0<k) && decide (l.getD k 0<l.getD (k - 1) 0))
def Fx (f:FrD) (l:List Int):Bool:=(List.range l.length).all (fun k=>!sBad f l k) && inB l.length 1 200
theorem fstrokes_any (f:FrD) (hf:f.Ok) (A:Option Addr) (c:Nat) (l:List Int) (w:World) (hL:Ad w A (Ac l)) (hn:l.length<=9223372036854775807) :
  Calls Tryz.prog 162 #[f.val,.slice A l.length c] w fun e w'=>e=.returned (.bool (Fx f l))/\Below w.heap.size w w':=by
 have hs0:=hf.s0;have hs1:=hf.s1;have hw0:=hf.w0;have hw1:=hf.w1;have hww:=IntWalk.i64_in (f.sec - f.wide) (by omega)
 unfold FrD.val;obtain ⟨W,hW⟩:∃ W,w.alloc (.cells #[.int .i64 f.rings,.int .i64 f.sec,.int .i64 f.wide] 112)=W:=⟨_,rfl⟩;have hbW:Below w.heap.size w W:=by rw [<- hW];exact Ba
 have X:=(show Bk W w.heap.size 112 #[.int .i64 f.rings,.int .i64 f.sec,.int .i64 f.wide] by rw [<- hW];exact Aa rfl)
 have x1:=X.cell 1;have x2:=X.cell 2;simp at x1 x2;have HW:=Hd hW;have HL:=Hd (hL.below hbW);clear hW X hf hL;go_enter Tryz.func162,Tryz.ntmps162;go_upto_region 1 with fail
 rw [HW.out];clear HW;go_wp2_with fail;go_loopw [9] (fun i wr=>W=wr/\∃ k:Nat,k<=l.length/\i=.int .i64 k/\Hid (∀ j,j<k->sBad f l j=false)) (fun i _=>l.length - (intOf i).toNat)
 case atStart=>exact ⟨rfl,0,Nat.zero_le _,rfl,fun j h=>absurd h (by omega)⟩
 case round =>
  obtain ⟨rfl,k,hk,rfl,hall⟩:=hrel
  by_cases hlt:k<l.length
  ·have hkI:(k:Int)<l.length:=by omega
   obtain ⟨b,off,hA,hb,hc⟩:=Jb HL.out (by omega)
   have c0:=hc k hlt;have HG:Hid (sBad f l k=true->Fx f l=false):=fun h=>by unfold Fx;rw [all_bad hlt h];rfl
   have HN:Hid (sBad f l k=false->∀ j,j<k+1->sBad f l j=false):=fun h=>Fq hall.out h
   have HV:Hid (sBad f l k=(!inB (l.getD k 0) 0 (f.sec - f.wide) || (decide (0<k) && decide (l.getD k 0<l.getD (k - 1) 0)))):=rfl
   clear hall;cases h1:inB (l.getD k 0) 0 (f.sec - f.wide) with
   | false =>
    rw [hA];clear hA hc;generalize l.getD k 0=x at *;have HQ:=Hd (HG.out (by rw [HV.out,h1];simp))
    go_wp2_with (go_at_call 36;refine (Bm _ _ _ _).mono ?_;rintro e w1 ⟨rfl,rfl⟩;rw [h1]);go_ret;exact ⟨Af HQ.out.symm,hbW⟩
   | true =>
    by_cases hk0:0<k
    ·have hk0I:(k:Int) > 0:=by omega
     have c1:=hc (k - 1) (by omega)
     have e1:(k:Int) - 1=((k - 1:Nat):Int):=by omega
     have hm1:((k - 1:Nat):Int)<l.length:=by omega
     have ew:=IntWalk.i64_in (((k - 1:Nat):Int)) (by omega)
     rw [hA];clear hA hc;generalize l.getD k 0=x at *;generalize l.getD (k - 1) 0=y at *;generalize k - 1=k1 at *
     by_cases hxy:x<y
     ·have HQ:=Hd (HG.out (by rw [HV.out,h1];simp;omega))
      go_wp2_with (go_at_call 36;refine (Bm _ _ _ _).mono ?_;rintro e w1 ⟨rfl,rfl⟩;rw [h1]);go_ret;exact ⟨Af HQ.out.symm,hbW⟩
     ·have HQ:=Hd (HN.out (by rw [HV.out,h1];simp;omega))
      go_wp2_with (go_at_call 36;refine (Bm _ _ _ _).mono ?_;rintro e w1 ⟨rfl,rfl⟩;rw [h1]);go_roundw
      case rel=>exact ⟨trivial,k+1,by omega,by go_num,HQ⟩
      case measure=>simp [intOf];omega
    ·obtain rfl:k=0:=by omega
     rw [hA];clear hA hc;simp only [Nat.add_zero] at c0;generalize l.getD 0 0=x at *;have HQ:=Hd (HN.out (by rw [HV.out,h1];simp))
     go_wp2_with (go_at_call 36;refine (Bm _ _ _ _).mono ?_;rintro e w1 ⟨rfl,rfl⟩;rw [h1]);go_roundw
     case rel=>exact ⟨trivial,1,by omega,by go_num,HQ⟩
     case measure=>simp [intOf];omega
  ·obtain rfl:k=l.length:=by omega
   have HQ:Hid (Fx f l=inB l.length 1 200):=by refine Hd ?_;unfold Fx;rw [all_good hall.out];rfl
   clear hall;go_wp2_with (go_at_call 36;refine (Bm _ _ _ _).mono ?_;rintro e w1 ⟨rfl,rfl⟩);go_ret;exact ⟨Af HQ.out.symm,hbW⟩
end
section
def Al.fr (b:Al):FrD:=⟨b.bed.rings,b.bed.sec,b.wide⟩
theorem frameOf_any (b:Al) (z:Df) (w:World) :
  Calls Tryz.prog 34 #[.agg (b.arr z)] w fun e w'=>e=.returned b.fr.val/\Below w.heap.size w w':=by
 obtain ⟨W,hW⟩:∃ W,(w.alloc (.cells (b.arr z) 41)).alloc (.cells #[.int .i64 0,.int .i64 0,.int .i64 0] 112)=W:=⟨_,rfl⟩;have hbW:Below w.heap.size w W:=by rw [<- hW];exact Ba.alloc (by simp) _
 have X:=(show Bk W w.heap.size 41 (b.arr z) by rw [<- hW];exact (Aa rfl).alloc _)
 have Y:=(show Bk W (w.heap.size+1) 112 #[.int .i64 0,.int .i64 0,.int .i64 0] by rw [<- hW];exact Aa (by simp))
 have x1:=X.cell 1;have x2:=X.cell 2;have x20:=X.cell 20;simp [Al.arr] at x1 x2 x20;have y0:=Y.cell 0;have y1:=Y.cell 1;have y2:=Y.cell 2;have k0:=Y.fz 0;have k1:=Y.fz 1;have k2:=Y.fz 2;have kl:=Y.lt;simp at y0 y1 y2;have HW:=Hd hW;have R:Bk (((W.setCell ⟨w.heap.size+1,0,none⟩ (.int .i64 b.bed.rings)).setCell ⟨w.heap.size+1,1,none⟩ (.int .i64 b.bed.sec)).setCell ⟨w.heap.size+1,2,none⟩ (.int .i64 b.wide)) (w.heap.size+1) 112 _:=((Y.put 0 (.int .i64 b.bed.rings)).put 1 (.int .i64 b.bed.sec)).put 2 (.int .i64 b.wide);have hB:=((hbW.setCell (p:=⟨w.heap.size+1,0,none⟩) (by simp) (.int .i64 b.bed.rings)).setCell (p:=⟨w.heap.size+1,1,none⟩) (by simp) (.int .i64 b.bed.sec)).setCell (p:=⟨w.heap.size+1,2,none⟩) (by simp) (.int .i64 b.wide)
 clear hW X Y;go_enter Tryz.func34,Tryz.ntmps34;go_upto_region 1 with fail
 rw [HW.out];clear HW;go_wp2_with fail;refine bodyPost_ret (v:=b.fr.val) (results_cell_row rfl _ _ _ 112 _ (0,0) _ rfl R Tryz.underlying112 rfl (by kernel_rfl)) rfl ?_
 exact ⟨rfl,hB⟩
def FrameP (b:Al) (w:World) (e:Ending) (w':World):Prop :=
 Below w.heap.size w w'/\((Fw b/\e=.returned (.tuple #[b.fr.val,.int .i64 0]))\/(¬ Fw b/\e=.returned (.tuple #[(FrD.mk 0 0 0).val,.int .i64 100])))
attribute [local go_sem ↓] Hp Bu
theorem FrameOf_any (b:Al) (z:Df) (w:World) (hb:Fa w b z) (hf:b.Few) :
  Calls Tryz.prog 17 #[.agg (b.arr z)] w (FrameP b w):=by
 obtain ⟨W,hW⟩:∃ W,(w.alloc (.cells (b.arr z) 41)).alloc (.cells #[.int .i64 0,.int .i64 0,.int .i64 0] 45)=W:=⟨_,rfl⟩;have hbW:Below w.heap.size w W:=by rw [<- hW];exact Ba.alloc (by simp) _
 have X:=(show Bk W w.heap.size 41 (b.arr z) by rw [<- hW];exact (Aa rfl).alloc _)
 have Y:=(show Bk W (w.heap.size+1) 45 #[.int .i64 0,.int .i64 0,.int .i64 0] by rw [<- hW];exact Aa (by simp))
 have HC:=Hd (Gv b z W (hb.below hbW) hf);have l0:=Ce X rfl;have HXY:=Hd (Ai X Y);have HW:=Hd hW;clear hW X Y hb hf;go_enter Tryz.func17,Tryz.ntmps17;go_upto_region 1 with fail
 rw [HW.out];clear HW;go_wp2_with fail;refine HC.out.mono ?_;rintro e w1 ⟨hb1,⟨hok,rfl⟩ | ⟨hno,rfl⟩⟩
 ·have HOK:=Hd hok;obtain ⟨X,Y⟩:=HXY.out;have X1:=X.keep hb1;have Y1:=Y.keep hb1;have hB1:=hbW.trans (hb1.mono hbW.size);have l1:=Ce X1 rfl;have HF:=Hd (frameOf_any b z w1);clear hok l0 X Y hb1 X1;go_wp2_with fail;refine HF.out.mono ?_;rintro e w2 ⟨rfl,hb2⟩;have Y2:=Y1.keep hb2;have hB2:=hB1.trans (hb2.mono hB1.size);have hfld:∀ W:World,(Instr.field 112 b.fr.val 0).run Tryz.prog W=.ok b.fr.val W:=fun W=>by
   unfold FrD.val
   kernel_rfl
  unfold FrD.val Al.fr at *;have k0:=Y2.fz 0;have k1:=Y2.fz 1;have k2:=Y2.fz 2;have y0:=Y2.cell 0;have y1:=Y2.cell 1;have y2:=Y2.cell 2;have kl:=Y2.lt;simp at y0 y1 y2;have R:Bk (((w2.setCell ⟨w.heap.size+1,0,none⟩ (.int .i64 b.bed.rings)).setCell ⟨w.heap.size+1,1,none⟩ (.int .i64 b.bed.sec)).setCell ⟨w.heap.size+1,2,none⟩ (.int .i64 b.wide)) (w.heap.size+1) 45 _:=((Y2.put 0 (.int .i64 b.bed.rings)).put 1 (.int .i64 b.bed.sec)).put 2 (.int .i64 b.wide);have hB:=((hB2.setCell (p:=⟨w.heap.size+1,0,none⟩) (by simp) (.int .i64 b.bed.rings)).setCell (p:=⟨w.heap.size+1,1,none⟩) (by simp) (.int .i64 b.bed.sec)).setCell (p:=⟨w.heap.size+1,2,none⟩) (by simp) (.int .i64 b.wide)
  have HRB:=Hd (Ai R hB);clear hb2 Y1 Y2 hB1 hB2 l1 R hB;go_wp2_with fail;obtain ⟨R,hB⟩:=HRB.out;generalize ((w2.setCell ⟨w.heap.size + 1,0,none⟩ (.int .i64 b.bed.rings)).setCell ⟨w.heap.size + 1,1,none⟩ (.int .i64 b.bed.sec)).setCell ⟨w.heap.size + 1,2,none⟩ (.int .i64 b.wide)=F at *;have r0:=R.cell 0;have r1:=R.cell 1;have r2:=R.cell 2;simp at r0 r1 r2;refine bodyPost_ret (v:=.tuple #[.agg #[.int .i64 b.bed.rings,.int .i64 b.bed.sec,.int .i64 b.wide],.int .i64 0]) (by simp [results,Tryz.results17,go_sem,r0,r1,r2]) rfl ?_
  exact ⟨hB,.inl ⟨HOK.out,rfl⟩⟩
 ·have HNO:=Hd hno;obtain ⟨X,Y⟩:=HXY.out;have Y2:=Y.keep hb1;have hB2:=hbW.trans (hb1.mono hbW.size);have k0:=Y2.fz 0;have k1:=Y2.fz 1;have k2:=Y2.fz 2;have y0:=Y2.cell 0;have y1:=Y2.cell 1;have y2:=Y2.cell 2;have kl:=Y2.lt;simp at y0 y1 y2;have R:Bk (((w1.setCell ⟨w.heap.size+1,0,none⟩ (.int .i64 0)).setCell ⟨w.heap.size+1,1,none⟩ (.int .i64 0)).setCell ⟨w.heap.size+1,2,none⟩ (.int .i64 0)) (w.heap.size+1) 45 _:=((Y2.put 0 (.int .i64 0)).put 1 (.int .i64 0)).put 2 (.int .i64 0);have hB:=((hB2.setCell (p:=⟨w.heap.size+1,0,none⟩) (by simp) (.int .i64 0)).setCell (p:=⟨w.heap.size+1,1,none⟩) (by simp) (.int .i64 0)).setCell (p:=⟨w.heap.size+1,2,none⟩) (by simp) (.int .i64 0)
  have HRB:=Hd (Ai R hB);clear hno l0 X Y hb1 Y2 R hB hB2;go_wp2_with fail;obtain ⟨R,hB⟩:=HRB.out;generalize ((w1.setCell ⟨w.heap.size + 1,0,none⟩ (.int .i64 0)).setCell ⟨w.heap.size + 1,1,none⟩ (.int .i64 0)).setCell ⟨w.heap.size + 1,2,none⟩ (.int .i64 0)=F at *;have r0:=R.cell 0;have r1:=R.cell 1;have r2:=R.cell 2;simp at r0 r1 r2;refine bodyPost_ret (v:=.tuple #[.agg #[.int .i64 0,.int .i64 0,.int .i64 0],.int .i64 100]) (by simp [results,Tryz.results17,go_sem,r0,r1,r2]) rfl ?_
  exact ⟨hB,.inr ⟨HNO.out,rfl⟩⟩
end
section
open Go.ChangeMaps (setBlock)
variable {P:Program}
abbrev Br:=List ((Int×Int)×Value)
structure MapF (f:Br) (es:Array MapEntry) (clock:Nat):Prop where
 ent:es.toList.map (fun e=>(e.key,e.val))=f.map (fun x=>(Ee x.1.1 x.1.2,x.2))
 born:∀ e∈es.toList,e.born<clock
 nodup:(es.toList.map (·.born)).Nodup
 keys:(f.map Prod.fst).Nodup
theorem MapF.nil (clock:Nat):MapF [] #[] clock:=⟨rfl,by simp,by simp,by simp⟩
def Ex (k:Int×Int):Br->Nat->Option (Nat×Value)
 | [],_=>none
 | x :: f,i=>if x.1=k then some (i,x.2) else Ex k f (i+1)
def Ha (f:Br) (k:Int×Int):Option Value:=(Ex k f 0).map (·.2)
def setF (f:Br) (k:Int×Int) (v:Value):Br:=match Ex k f 0 with
 | none=>f ++ [(k,v)]
 | some (j,_)=>f.set j (k,v)
theorem findIx_shift (k:Int×Int):∀ (f:Br) (i:Nat),Ex k f (i+1)=(Ex k f i).map fun x=>(x.1+1,x.2)
 | [],_=>rfl
 | x :: f,i=>by
  simp only [Ex]
  split
  ·rfl
  ·exact findIx_shift k f (i+1)
theorem findIx_some (k:Int×Int):∀ (f:Br) (i j:Nat) (v:Value),Ex k f i=some (j,v)->i<=j/\j - i<f.length/\f[j - i]?=some (k,v)
 | [],_,_,_,h=>by cases h
 | x :: f,i,j,v,h=>by
  simp only [Ex] at h
  split at h
  ·rename_i hx;injection h with h
   injection h with h1 h2
   subst h1;subst h2;refine ⟨Nat.le_refl _,by simp,?_⟩
   rw [Nat.sub_self,<- hx];rfl
  ·obtain ⟨a,b,c⟩:=findIx_some k f (i+1) j v h;have e:j - i=(j - (i+1))+1:=by omega
   refine ⟨by omega,by simp;omega,?_⟩
   rw [e]
   simpa using c
theorem findIx_none (k:Int×Int):∀ (f:Br) (i:Nat),Ex k f i=none↔k ∉ f.map Prod.fst
 | [],_=>by simp [Ex]
 | x :: f,i=>by
  simp only [Ex]
  split
  ·rename_i hx;simp [hx]
  ·rename_i hx;rw [findIx_none k f (i+1)];simp only [List.map_cons,List.mem_cons,not_or];exact ⟨fun h=>⟨fun e=>hx e.symm,h⟩,fun h=>h.2⟩
theorem lookF_none (f:Br) (k:Int×Int):Ha f k=none↔k ∉ f.map Prod.fst:=by
 unfold Ha;rw [Option.map_eq_none_iff];exact findIx_none k f 0
theorem lookF_mem {f:Br} {k:Int×Int} {v:Value} (h:Ha f k=some v):(k,v)∈f:=by
 unfold Ha at h;rw [Option.map_eq_some_iff] at h;obtain ⟨⟨j,u⟩,h1,rfl⟩:=h;exact List.mem_of_getElem? (findIx_some k f 0 j u h1).2.2
theorem lookF_of_mem:∀ {f:Br},(f.map Prod.fst).Nodup->∀ {k:Int×Int} {v:Value},(k,v)∈f->Ha f k=some v
 | [],_,k,v,h=>by cases h
 | x :: f,hn,k,v,h=>by
  simp only [List.map_cons,List.nodup_cons] at hn;unfold Ha;simp only [Ex];rcases List.mem_cons.1 h with h | h
  ·rw [<- h];simp
  ·rw [if_neg]
   ·rw [findIx_shift];have ih:=lookF_of_mem hn.2 h;unfold Ha at ih;rw [Option.map_map]
    simpa using ih
   ·intro e;exact hn.1 (e ▸ List.mem_map.2 ⟨_,h,rfl⟩)
theorem setF_keys {f:Br} (hn:(f.map Prod.fst).Nodup) (k:Int×Int) (v:Value):((setF f k v).map Prod.fst).Nodup:=by
 unfold setF
 split
 ·rename_i h;rw [findIx_none] at h;rw [List.map_append,List.nodup_append];refine ⟨hn,by simp,fun a ha b hb=>?_⟩
  simp at hb;subst hb;intro e;exact h (e ▸ ha)
 ·rename_i j u h;obtain ⟨_,h2,h3⟩:=findIx_some k f 0 j u h;rw [Nat.sub_zero] at h2 h3;have e:(f.set j (k,v)).map Prod.fst=f.map Prod.fst:=by
   rw [List.map_set];refine List.ext_getElem? fun i=>?_
   rw [List.getElem?_set]
   split
   ·rename_i hij;subst hij;have:f[j]=(k,u):=by
     rw [List.getElem?_eq_getElem h2] at h3;injection h3
    simp [h2,this]
   ·rfl
  rw [e];exact hn
theorem mem_setF {f:Br} (hn:(f.map Prod.fst).Nodup) (k:Int×Int) (v:Value) (x:(Int×Int)×Value):x∈setF f k v↔(x=(k,v)\/(x∈f/\x.1≠k)):=by
 unfold setF
 split
 ·rename_i h;rw [findIx_none] at h;rw [List.mem_append,List.mem_singleton];refine ⟨fun g=>?_,fun g=>?_⟩
  ·rcases g with g | g
   ·exact .inr ⟨g,fun e=>h (e ▸ List.mem_map.2 ⟨_,g,rfl⟩)⟩
   ·exact .inl g
  ·rcases g with g | g
   ·exact .inr g
   ·exact .inl g.1
 ·rename_i j u h;obtain ⟨_,h2,h3⟩:=findIx_some k f 0 j u h;rw [Nat.sub_zero] at h2 h3;have hfj:f[j]=(k,u):=by
   rw [List.getElem?_eq_getElem h2] at h3;injection h3
  rw [List.mem_iff_getElem?];refine ⟨fun ⟨i,hi⟩=>?_,fun g=>?_⟩
  ·rw [List.getElem?_set] at hi
   split at hi
   ·rename_i hij;injection hi with hi
    exact .inl hi.symm
   ·rename_i hij;refine .inr ⟨List.mem_of_getElem? hi,fun e=>hij ?_⟩
    have hil:=(List.getElem?_eq_some_iff.1 hi).1;have hix:=(List.getElem?_eq_some_iff.1 hi).2;have h5:(f.map Prod.fst)[j]'(by simpa using h2)=(f.map Prod.fst)[i]'(by simpa using hil):=by simp [hfj,hix,e]
    exact (List.getElem_inj hn).1 h5
  ·rcases g with rfl | ⟨g,hne⟩
   ·exact ⟨j,by simp [h2]⟩
   ·obtain ⟨i,hi,hx⟩:=List.getElem_of_mem g;refine ⟨i,?_⟩;rw [List.getElem?_set,if_neg,List.getElem?_eq_getElem hi,hx];intro e;subst e;rw [hfj] at hx;exact hne (by rw [<- hx])
theorem lookF_setF {f:Br} (hn:(f.map Prod.fst).Nodup) (k:Int×Int) (v:Value) (k':Int×Int):Ha (setF f k v) k'=if k'=k then some v else Ha f k':=by
 split
 ·rename_i h;subst h;exact lookF_of_mem (setF_keys hn _ v) ((mem_setF hn _ v _).2 (.inl rfl))
 ·rename_i h;cases hl:Ha f k' with
  | none =>
   rw [lookF_none] at hl ⊢;intro hm;obtain ⟨x,h1,h2⟩:=List.mem_map.1 hm;rcases (mem_setF hn k v x).1 h1 with g | g
   ·subst g;exact h h2.symm
   ·exact hl (List.mem_map.2 ⟨x,g.1,h2⟩)
  | some u=>exact lookF_of_mem (setF_keys hn _ v) ((mem_setF hn k v _).2 (.inr ⟨lookF_mem hl,h⟩))
theorem run_findAskingF {kt:TypeId} (hk:NameKey P kt) (a b:Int) (w:World):∀ (l:List MapEntry) (f:Br) (i:Nat),l.map (fun e=>(e.key,e.val))=f.map (fun x=>(Ee x.1.1 x.1.2,x.2))->(Instr.findAsking kt (Ee a b) l i).run P w=.ok (Ex (a,b) f i) w
 | [],f,i,h=>by
  cases f with
  | nil=>simp [Instr.findAsking,Sem.run_pure,Ex]
  | cons x f=>cases h
 | e :: l,f,i,h=>by
  cases f with
  | nil=>cases h
  | cons x f =>
   simp only [List.map_cons] at h;injection h with h1 h2
   injection h1 with h1 h3
   obtain ⟨⟨c,d⟩,v⟩:=x;simp only at h1 h3;have ih:=run_findAskingF hk a b w l f (i+1) h2
   by_cases he:(a == c && b == d)=true
   ·have h4:a=c/\b=d:=by simpa using he
    obtain ⟨rfl,rfl⟩:=h4;simp only [Instr.findAsking,Sem.run_bind,h1,hk.eql,Result.andThen,Ex,h3,if_true];simp [Sem.run_pure]
   ·have h2:¬ ((c,d)=(a,b)):=by
     intro g;injection g with g1 g2
     subst g1;subst g2;exact he (by simp)
    simp only [Instr.findAsking,Sem.run_bind,h1,hk.eql,Result.andThen,he,Ex,if_neg h2]
    simpa using ih
theorem run_findKeyF {kt:TypeId} (hk:NameKey P kt) (a b:Int) (w:World) (l:List MapEntry) (f:Br) (hl:l.map (fun e=>(e.key,e.val))=f.map (fun x=>(Ee x.1.1 x.1.2,x.2))) :
  (Instr.findKey kt (Ee a b) l).run P w=.ok (Ex (a,b) f 0) w:=by
 obtain ⟨fs,hfs⟩:=hk.und;have hr:=run_findAskingF hk a b w l f 0 hl;cases l with
 | nil =>
  cases f with
  | nil=>simp [Instr.findKey,Sem.run_bind,run_underlying hfs,Result.andThen,Instr.findNow,Sem.run_pure,Ex]
  | cons x f=>cases hl
 | cons e l =>
  have e1:Instr.findNow (.struct fs) (Ee a b) (e :: l) 0=none:=by simp [Instr.findNow,Instr.sameNow]
  simp only [Instr.findKey,Sem.run_bind,run_underlying hfs,Result.andThen,e1];exact hr
theorem Kv {mt kt et:TypeId} {z:Value} (hk:NameKey P kt) (hm:P.underlying mt=some (.map kt et)) (hz:∀ w,(zeroValue et).run P w=.ok z w) (a b:Int) (g:Nat) (es:Array MapEntry) (clock:Nat) (w:World) (f:Br)
  (hg:w.heap[g]?=some (.map es clock)) (hi:MapF f es clock) (ok:Bool) :
  (Instr.lookup mt (.map (some g)) (Ee a b) ok).run P w=.ok (if ok then .tuple #[(Ha f (a,b)).getD z,.bool (Ha f (a,b)).isSome] else (Ha f (a,b)).getD z) w:=by
 have hr:=run_findKeyF hk a b w es.toList f hi.ent;unfold Ha;cases h:Ex (a,b) f 0 with
 | none =>
  rw [h] at hr;simp only [Instr.lookup,Sem.run_bind,run_underlying hm,Result.andThen,getObj,Sem.run,hg,hk.chk];cases ok<;>(simp [Sem.run_pure,Result.andThen];rw [hr];simp [Sem.run_pure,Result.andThen,hz])
 | some x =>
  rw [h] at hr;simp only [Instr.lookup,Sem.run_bind,run_underlying hm,Result.andThen,getObj,Sem.run,hg,hk.chk];cases ok<;>(simp [Sem.run_pure,Result.andThen];rw [hr];simp [Sem.run_pure,Result.andThen])
theorem run_updateF {mt kt et:TypeId} (hk:NameKey P kt) (hm:P.underlying mt=some (.map kt et)) (a b:Int) (x:Value) (g:Nat) (es:Array MapEntry) (clock:Nat) (w:World) (f:Br)
  (hg:w.heap[g]?=some (.map es clock)) (hi:MapF f es clock) :
  ∃ es' c',(Instr.mapUpdate mt (.map (some g)) (Ee a b) x).run P w=.ok () (setBlock w g (.map es' c'))/\MapF (setF f (a,b) x) es' c':=by
 have hr:=run_findKeyF hk a b w es.toList f hi.ent;have hset:=setF_keys hi.keys (a,b) x;unfold setF at hset ⊢;cases h:Ex (a,b) f 0 with
 | none =>
  rw [h] at hr;simp only [h] at hset;refine ⟨es.push { key:=Ee a b,val:=x,born:=clock },clock+1,?_,⟨?_,?_,?_,hset⟩⟩
  ·simp only [Instr.mapUpdate,Sem.run_bind,run_underlying hm,Result.andThen,getObj,Sem.run,hg,hk.chk];rw [hr];simp [setObj,Sem.run,hg,setBlock]
  ·simp [hi.ent]
  ·intro e he;simp at he;rcases he with he | rfl
   ·have:=hi.born e (by simpa using he);omega
   ·simp
  ·simp only [Array.toList_push,List.map_append,List.map_cons,List.map_nil];rw [List.nodup_append];refine ⟨hi.nodup,by simp,fun u hu v hv=>?_⟩
   simp at hv;subst hv;obtain ⟨e,he,rfl⟩:=List.mem_map.1 hu;have:=hi.born e he;omega
 | some y =>
  obtain ⟨j,u⟩:=y;rw [h] at hr;simp only [h] at hset;obtain ⟨_,h2,h3⟩:=findIx_some _ f 0 j u h;rw [Nat.sub_zero] at h2 h3;have hlen:es.size=f.length:=by have:=congrArg List.length hi.ent;simpa using this
  have hj:j<es.size:=by omega
  have hkey:es[j].key=Ee a b:=by
   have h5:=congrArg (fun l=>l[j]?) hi.ent
   simp only [List.getElem?_map,h3,Option.map_some,Array.getElem?_toList,Array.getElem?_eq_getElem hj] at h5;injection h5 with h5
   injection h5
  refine ⟨es.modify j (fun e=>{ e with key:=Ee a b,val:=x }),clock,?_,⟨?_,?_,?_,hset⟩⟩
  ·have hey:es[j]?=some es[j]:=Array.getElem?_eq_getElem hj;simp only [Instr.mapUpdate,Sem.run_bind,run_underlying hm,Result.andThen,getObj,Sem.run,hg,hk.chk];rw [hr];simp [Instr.keyThatStays,hey,hkey,sameBits_name,setObj,Sem.run,hg,setBlock,Sem.run_pure,Result.andThen]
  ·refine List.ext_getElem (by simp [hlen]) fun i g1 g2=>?_
   simp only [List.getElem_map,Array.getElem_toList,Array.getElem_modify,List.getElem_set]
   split
   ·rfl
   ·have h5:=congrArg (fun l=>l[i]?) hi.ent
    have i1:i<es.size:=by simpa using g1
    have i2:i<f.length:=by omega
    simp only [List.getElem?_map,List.getElem?_eq_getElem i2,Option.map_some,Array.getElem?_toList,Array.getElem?_eq_getElem i1] at h5;injection h5
  ·intro e he;obtain ⟨i,hil,rfl⟩:=List.getElem_of_mem he;simp at hil;simp only [Array.getElem_toList,Array.getElem_modify]
   split
   ·exact hi.born (es[i]'hil) (by simp)
   ·exact hi.born (es[i]'hil) (by simp)
  ·have e:(es.modify j (fun e=>{ e with key:=Ee a b,val:=x })).toList.map (·.born)=es.toList.map (·.born):=by
    refine List.ext_getElem (by simp) fun i h1 h2=>?_
    simp only [List.getElem_map,Array.getElem_toList,Array.getElem_modify]
    split<;>rfl
   rw [e];exact hi.nodup
def unName:Value->Int×Int
 | .agg #[.int _ a,.int _ b]=>(a,b)
 | _=>(0,0)
def entF (e:MapEntry):(Int×Int)×Value:=(unName e.key,e.val)
theorem MapF.entF {f:Br} {es:Array MapEntry} {clock:Nat} (h:MapF f es clock):es.toList.map entF=f:=by
 have h1:=congrArg (List.map fun x:Value×Value=>(unName x.1,x.2)) h.ent
 rw [List.map_map,List.map_map] at h1;have e2:(fun x:Value×Value=>(unName x.1,x.2)) ∘ (fun x:(Int×Int)×Value=>(Ee x.1.1 x.1.2,x.2))=id:=by funext x;rfl
 rw [e2,List.map_id] at h1;exact h1
theorem MapF.key {f:Br} {es:Array MapEntry} {clock:Nat} (h:MapF f es clock) {e:MapEntry} (he:e∈es.toList):e.key=Ee (Proofs.YteihcodicfoiaaaGreat.entF e).1.1 (Proofs.YteihcodicfoiaaaGreat.entF e).1.2:=by
 have h1:(e.key,e.val)∈es.toList.map (fun e=>(e.key,e.val)):=List.mem_map.2 ⟨e,he,rfl⟩
 rw [h.ent] at h1;obtain ⟨x,_,hx⟩:=List.mem_map.1 h1;injection hx with hx _
 unfold Proofs.YteihcodicfoiaaaGreat.entF;rw [<- hx];rfl
def Dr (w:World) (r bm:Nat) (f D:Br):Prop :=
 ∃ es clock since seen c0,w.heap[r]?=some (.mapIter (some bm) since seen c0)/\w.heap[bm]?=some (.map es clock)/\MapF f es clock/\(∀ x∈es.toList,x.born<since)/\since<=c0/\since<=clock/\∃ ds:List MapEntry,ds.map entF=D/\(ds ++ (leftOf es seen).toList).Perm es.toList
theorem Dr.keep {w w':World} {r bm:Nat} {f D:Br} (h:Dr w r bm f D) (h1:w'.heap[r]?=w.heap[r]?) (h2:w'.heap[bm]?=w.heap[bm]?):Dr w' r bm f D:=by
 obtain ⟨es,clock,since,seen,c0,a,b,c⟩:=h;exact ⟨es,clock,since,seen,c0,h1.trans a,h2.trans b,c⟩
theorem Dr.start {w:World} {bm:Nat} {f:Br} {es:Array MapEntry} {clock:Nat} (hb:w.heap[bm]?=some (.map es clock)) (hi:MapF f es clock):Dr (w.alloc (.mapIter (some bm) clock #[] clock)) w.heap.size bm f []:=by
 have hlt:bm<w.heap.size:=(Array.getElem?_eq_some_iff.1 hb).1;refine ⟨es,clock,clock,#[],clock,heap_alloc_new w _,(Below.heap_alloc w _ bm hlt).trans hb,hi,hi.born,Nat.le_refl _,Nat.le_refl _,[],rfl,?_⟩;have:(leftOf es #[])=es:=by
  unfold leftOf;exact Array.filter_eq_self.2 (fun x _=>by simp)
 rw [this];exact List.Perm.refl _
theorem perm_strike:∀ (l:List MapEntry),(l.map (·.born)).Nodup->∀ e∈l,l.Perm (e :: l.filter (fun x=>!(x.born == e.born)))
 | [],_,e,he=>by cases he
 | x :: l,hn,e,he=>by
  simp only [List.map_cons,List.nodup_cons] at hn;rcases List.mem_cons.1 he with rfl | he
  ·have:l.filter (fun x=>!(x.born == e.born))=l:=List.filter_eq_self.2 (fun y hy=>by
    simp only [Bool.not_eq_true',beq_eq_false_iff_ne];intro h;exact hn.1 (h ▸ List.mem_map.2 ⟨y,hy,rfl⟩))
   rw [List.filter_cons];simp only [beq_self_eq_true,Bool.not_true,Bool.false_eq_true,if_false,this];exact List.Perm.refl _
  ·have hne:(!(x.born == e.born))=true:=by
    simp only [Bool.not_eq_true',beq_eq_false_iff_ne];intro h;exact hn.1 (h ▸ List.mem_map.2 ⟨e,he,rfl⟩)
   rw [List.filter_cons,if_pos hne];exact ((perm_strike l hn.2 e he).cons x).trans (List.Perm.swap _ _ _)
theorem Dr.next {w:World} {r bm:Nat} {f D:Br} (h:Dr w r bm f D) (hne:bm≠r) (ty:TypeId) :
  (D.Perm f/\(Instr.next (.pointer (some ⟨r,0,none⟩)) false ty).run P w=.ok (.tuple #[.bool false]) w)\/
  ∃ (k:Int×Int) (v:Value) (w1 w':World),(k,v)∈f/\D.length<f.length/\(w1=w\/w1=w.drew)/\(∃ o,w'=setBlock w1 r o)/\(Instr.next (.pointer (some ⟨r,0,none⟩)) false ty).run P w=.ok (.tuple #[.bool true,Ee k.1 k.2,v]) w'/\Dr w' r bm f (D ++ [(k,v)])/\
   (Instr.entry (.pointer (some ⟨r,0,none⟩))).run P w'=.ok (.tuple #[Ee k.1 k.2,v]) w':=by
 obtain ⟨es,clock,since,seen,c0,hr,hb,hi,hold,hsc,hsk,ds,rfl,hp⟩:=h;have hlen:=hp.length_eq;have hfl:f.length=es.toList.length:=by rw [<- hi.entF];simp
 rcases run_next_at (P:=P) w ty r bm since c0 seen es clock hr hb hold hsc with ⟨h0,hrun⟩ | ⟨e,he,w1,hw1,hrun⟩
 ·refine .inl ⟨?_,hrun⟩;have:(leftOf es seen).toList=[]:=List.eq_nil_of_length_eq_zero (by simpa using h0)
  rw [this,List.append_nil] at hp;have h2:=hp.map entF
  rwa [hi.entF] at h2
 ·have hee:e∈es.toList:=by
   unfold leftOf at he;simp at he ⊢;exact he.1
  have hr1:w1.heap[r]?=some (.mapIter (some bm) since seen c0):=by rcases hw1 with rfl | rfl<;>exact hr
  have hb1:w1.heap[bm]?=some (.map es clock):=by rcases hw1 with rfl | rfl<;>exact hb
  have hrr:(setBlock w1 r (.mapIter (some bm) since (seen.push e.born) clock)).heap[r]?=some (.mapIter (some bm) since (seen.push e.born) clock):=by
   have:r<w1.heap.size:=(Array.getElem?_eq_some_iff.1 hr1).1;simp [setBlock,this]
  have hbb:(setBlock w1 r (.mapIter (some bm) since (seen.push e.born) clock)).heap[bm]?=some (.map es clock):=by
   rw [<- hb1];simp [setBlock,Array.getElem?_setIfInBounds,Ne.symm hne]
  have hkey:=hi.key hee;have hval:e.val=(entF e).2:=rfl;have hborn:=hi.born e hee;refine .inr ⟨(entF e).1,(entF e).2,w1,_,?_,?_,hw1,⟨_,rfl⟩,by rw [hrun,<- hval,<- hkey],⟨es,clock,since,seen.push e.born,clock,hrr,hbb,hi,hold,hsk,hsk,ds ++ [e],by simp,?_⟩,?_⟩
  ·rw [<- hi.entF];exact List.mem_map.2 ⟨e,hee,rfl⟩
  ·have:0<(leftOf es seen).toList.length:=List.length_pos_of_mem he;rw [List.length_append] at hlen;rw [hfl,List.length_map];omega
  ·have hln:((leftOf es seen).toList.map (·.born)).Nodup:=by
    refine hi.nodup.sublist (List.Sublist.map _ ?_);unfold leftOf;rw [Array.toList_filter];exact List.filter_sublist
   have h1:=perm_strike _ hln e he;have e1:(leftOf es (seen.push e.born)).toList=(leftOf es seen).toList.filter (fun x=>!(x.born == e.born)):=by
    unfold leftOf;rw [Array.toList_filter,Array.toList_filter,List.filter_filter]
    congr 1
    funext x
    simp only [Array.contains_push,Bool.not_or];rw [Bool.and_comm]
   rw [e1];refine List.Perm.trans ?_ hp;rw [List.append_assoc];exact h1.symm.append_left ds
  ·have:=run_entry_at (P:=P) (setBlock w1 r (.mapIter (some bm) since (seen.push e.born) clock)) r bm since seen es clock e hrr hbb hee hi.nodup;rw [this,<- hval,<- hkey]
end
section
namespace BF
structure Ed where
 a:Nat
 z:Nat
 m:Int
inductive Way (es:List Ed) (s:Nat):Nat->Nat->Int->Prop where
 | nil:Way es s s 0 0
 | snoc {k:Nat} {W:Int} {e:Ed}:Way es s e.a k W->e∈es->Way es s e.z (k+1) (W+e.m)
theorem pigeon:∀ (n:Nat) (f:Nat->Nat),(∀ i,i<=n->f i<n)->∃ i j,i<j/\j<=n/\f i=f j
 | 0,f,h=>absurd (h 0 Le) (by omega)
 | n+1,f,h=>by
  by_cases hx:∃ i,i<=n/\f i=f (n+1)
  ·obtain ⟨i,h1,h2⟩:=hx;exact ⟨i,n+1,by omega,Nat.le_refl _,h2⟩
  ·have hx':∀ i,i<=n->f i≠f (n+1):=fun i hi e=>hx ⟨i,hi,e⟩
   obtain ⟨i,j,h1,h2,h3⟩:=pigeon n (fun i=>if f i > f (n+1) then f i - 1 else f i) (fun i hi=>by
    have a:=h i (by omega)
    have b:=h (n+1) (by omega)
    have c:=hx' i hi
    split<;>omega)
   refine ⟨i,j,h1,by omega,?_⟩
   have a:=hx' i (by omega)
   have b:=hx' j h2
   split at h3<;>split at h3<;>omega
variable {es:List Ed} {s n:Nat} {M far:Int}
theorem Way.le_pot {h:Nat->Int} (hp:∀ e∈es,h e.z<=h e.a+e.m) {v k:Nat} {W:Int} (w:Way es s v k W):h v<=h s+W:=by
 induction w with
 | nil=>omega
 | snoc w he ih=>have:=hp _ he;omega
theorem Way.bound (hM:∀ e∈es,-M<=e.m/\e.m<=M) {v k:Nat} {W:Int} (w:Way es s v k W):-(k*M)<=W/\W<=k*M:=by
 induction w with
 | nil=>simp
 | @snoc k W e w he ih =>
  have h:=hM _ he;have e1:((k+1:Nat):Int)*M=k*M+M:=by rw [Int.natCast_add,Int.add_mul];simp
  rw [e1];omega
theorem Way.lt (hn:∀ e∈es,e.a<n/\e.z<n) (hs:s<n) {v k:Nat} {W:Int} (w:Way es s v k W):v<n:=by
 cases w with
 | nil=>exact hs
 | snoc w he=>exact (hn _ he).2
inductive From (es:List Ed):Nat->Nat->Nat->Int->Prop where
 | nil (v:Nat):From es v v 0 0
 | snoc {u k:Nat} {W:Int} {e:Ed}:From es u e.a k W->e∈es->From es u e.z (k+1) (W+e.m)
theorem Way.append {u v k j:Nat} {W X:Int} (w:Way es s u k W) (f:From es u v j X):Way es s v (k+j) (W+X):=by
 induction f with
 | nil=>simpa using w
 | snoc f he ih=>have:=Way.snoc ih he;rw [<- Int.add_assoc];exact this
theorem From.le_pot {h:Nat->Int} (hp:∀ e∈es,h e.z<=h e.a+e.m) {u v k:Nat} {W:Int} (w:From es u v k W):h v<=h u+W:=by
 induction w with
 | nil=>omega
 | snoc w he ih=>have:=hp _ he;omega
theorem From.head {e:Ed} (he:e∈es) {v k:Nat} {W:Int} (w:From es e.z v k W):From es e.a v (k+1) (e.m+W):=by
 generalize hz:e.z=z at w
 induction w with
 | nil =>
  subst hz;have h1:=From.snoc (From.nil (es:=es) e.a) he
  simpa using h1
 | snoc w hx ih =>
  have:=From.snoc ih hx;rw [<- Int.add_assoc];exact this
theorem Way.at_ {v k:Nat} {W:Int} (w:Way es s v k W):∃ f:Nat->Nat,f 0=s/\f k=v/\∀ i j,i<=j->j<=k->(∃ X,Way es s (f i) i X/\∃ Y,From es (f i) (f j) (j - i) Y/\∃ Z,From es (f j) v (k - j) Z/\W=X+Y+Z):=by
 induction w with
 | nil=>exact ⟨fun _=>s,rfl,rfl,fun i j h1 h2=>by
   obtain rfl:j=0:=by omega
   obtain rfl:i=0:=by omega
   exact ⟨0,.nil,0,.nil _,0,.nil _,by simp⟩⟩
 | @snoc k W e w he ih =>
  obtain ⟨f,f0,f1,f2⟩:=ih;have n1:¬ (k+1<=k):=by omega
  refine ⟨fun i=>if i<=k then f i else e.z,by simp [f0],by simp only [if_neg n1],fun i j h1 h2=>?_⟩
  by_cases hj:j<=k
  ·obtain ⟨X,hX,Y,hY,Z,hZ,hW⟩:=f2 i j h1 hj;have e1:k+1 - j=k - j+1:=by omega
   simp only [if_pos hj,if_pos (show i<=k by omega),e1]
   exact ⟨X,hX,Y,hY,Z+e.m,.snoc hZ he,by omega⟩
  ·obtain rfl:j=k+1:=by omega
   by_cases hi:i<=k
   ·obtain ⟨X,hX,Y,hY,Z,hZ,hW⟩:=f2 i k hi Le;have hz0:Z=0:=by
     rw [Nat.sub_self] at hZ;generalize hk0:(0:Nat)=k0 at hZ;generalize f k=a at hZ;generalize e.a=b at hZ;cases hZ with
     | nil=>rfl
     | snoc _ _=>omega
    rw [f1] at hY;have e1:k+1 - i=k - i+1:=by omega
    simp only [if_pos hi,if_neg n1,e1,Nat.sub_self];exact ⟨X,hX,Y+e.m,.snoc hY he,0,.nil _,by omega⟩
   ·obtain rfl:i=k+1:=by omega
    simp only [if_neg n1,Nat.sub_self];exact ⟨W+e.m,.snoc w he,0,.nil _,0,.nil _,by omega⟩
theorem Way.short {h:Nat->Int} (hp:∀ e∈es,h e.z<=h e.a+e.m) (hn:∀ e∈es,e.a<n/\e.z<n) (hs:s<n):∀ (k v:Nat) (W:Int),Way es s v k W->∃ j X,j<n/\X<=W/\Way es s v j X:=by
 intro k
 induction k using Nat.strongRecOn with
 | _ k ih =>
  intro v W w
  by_cases hk:k<n
  ·exact ⟨k,W,hk,Int.le_refl _,w⟩
  ·obtain ⟨f,f0,f1,f2⟩:=w.at_;obtain ⟨i,j,h1,h2,h3⟩:=pigeon n f (fun i hi=>by
    obtain ⟨X,hX,_⟩:=f2 i i Le (by omega)
    exact hX.lt hn hs)
   obtain ⟨X,hX,Y,hY,Z,hZ,hW⟩:=f2 i j (by omega) (by omega)
   rw [h3] at hX hY;have hy:=hY.le_pot hp;obtain ⟨j',X',g1,g2,g3⟩:=ih (i+(k - j)) (by omega) v (X+Z) (hX.append hZ)
   exact ⟨j',X',g1,by omega,g3⟩
structure St where
 d:List Int
 p:List Int
 ch:Bool
def relax1 (far:Int) (i:Nat) (e:Ed) (t:St):St :=
 if t.d.getD e.a 0=far\/t.d.getD e.z 0<=t.d.getD e.a 0+e.m then t else ⟨t.d.set e.z (t.d.getD e.a 0+e.m),t.p.set e.z i,true⟩
def passK (far:Int) (es:List Ed):Nat->St->St
 | 0,t=>t
 | k+1,t=>match es[k]? with
  | some e=>relax1 far k e (passK far es k t)
  | none=>passK far es k t
def pass (far:Int) (es:List Ed) (t:St):St:=passK far es es.length ⟨t.d,t.p,false⟩
structure Inv (es:List Ed) (s n:Nat) (far:Int) (t:St):Prop where
 dl:t.d.length=n
 pl:t.p.length=n
 top:∀ v,v<n->t.d.getD v 0<=far
 way:∀ v,v<n->t.d.getD v 0≠far->∃ k,Way es s v k (t.d.getD v 0)
 par:∀ v,v<n->(t.p.getD v 0 = -1/\(t.d.getD v 0=far\/(v=s/\t.d.getD v 0=0)))\/(∃ (i:Nat) (e:Ed),es[i]?=some e/\t.p.getD v 0=i/\e.z=v/\t.d.getD e.a 0≠far/\t.d.getD v 0≠far/\t.d.getD e.a 0+e.m<=t.d.getD v 0)
theorem getD_set (l:List Int) (i j:Nat) (x:Int) (hi:i<l.length):(l.set i x).getD j 0=if i=j then x else l.getD j 0:=by
 rw [List.getD_eq_getElem?_getD,List.getElem?_set,List.getD_eq_getElem?_getD]
 split
 ·rfl
 ·rfl
theorem Inv.step (hn:∀ e∈es,e.a<n/\e.z<n) {t:St} (h:Inv es s n far t) (i:Nat) (e:Ed) (he:es[i]?=some e):Inv es s n far (relax1 far i e t):=by
 unfold relax1
 split
 ·exact h
 ·rename_i hc;have hc1:t.d.getD e.a 0≠far:=fun x=>hc (.inl x)
  have hc2:t.d.getD e.a 0+e.m<t.d.getD e.z 0:=by
   have:¬ t.d.getD e.z 0<=t.d.getD e.a 0+e.m:=fun x=>hc (.inr x)
   omega
  have hem:=List.mem_of_getElem? he;obtain ⟨ha,hz⟩:=hn e hem;have hzd:e.z<t.d.length:=by rw [h.dl];exact hz
  have hzp:e.z<t.p.length:=by rw [h.pl];exact hz
  have htop:=h.top e.z hz;refine ⟨by simp [h.dl],by simp [h.pl],fun v hv=>?_,fun v hv hf=>?_,fun v hv=>?_⟩
  ·simp only [getD_set _ _ _ _ hzd]
   split
   ·omega
   ·exact h.top v hv
  ·simp only [getD_set _ _ _ _ hzd] at hf ⊢
   split
   ·rename_i hzv;subst hzv;obtain ⟨k,hk⟩:=h.way e.a ha hc1;exact ⟨k+1,.snoc hk hem⟩
   ·rename_i hzv;rw [if_neg hzv] at hf;exact h.way v hv hf
  ·simp only [getD_set _ _ _ _ hzd,getD_set _ _ _ _ hzp]
   by_cases hzv:e.z=v
   ·subst hzv;refine .inr ⟨i,e,he,by simp,rfl,?_,by simp only [if_true];omega,?_⟩
    ·split<;>omega
    ·simp only [if_true]
     split
     ·rename_i hza;rw [hza] at hc2;omega
     ·omega
   ·rw [if_neg hzv,if_neg hzv];rcases h.par v hv with g | ⟨j,x,g1,g2,g3,g4,g5,g6⟩
    ·exact .inl g
    ·refine .inr ⟨j,x,g1,g2,g3,?_,g5,?_⟩
     ·split<;>omega
     ·split
      ·rename_i hza;rw [<- hza] at g6;omega
      ·exact g6
theorem Inv.passK (hn:∀ e∈es,e.a<n/\e.z<n) {t:St} (h:Inv es s n far t) (k:Nat):Inv es s n far (passK far es k t):=by
 induction k with
 | zero=>exact h
 | succ k ih =>
  simp only [BF.passK]
  split
  ·exact ih.step hn _ _ (by assumption)
  ·exact ih
theorem Inv.flag {t:St} (h:Inv es s n far t) (b:Bool):Inv es s n far ⟨t.d,t.p,b⟩:=⟨h.dl,h.pl,h.top,h.way,h.par⟩
theorem Inv.pass (hn:∀ e∈es,e.a<n/\e.z<n) {t:St} (h:Inv es s n far t):Inv es s n far (pass far es t):=(h.flag false).passK hn _
theorem relax1_le (hn:∀ e∈es,e.a<n/\e.z<n) {t:St} (h:Inv es s n far t) (i:Nat) (e:Ed) (he:es[i]?=some e) (v:Nat):(relax1 far i e t).d.getD v 0<=t.d.getD v 0:=by
 unfold relax1
 split
 ·exact Int.le_refl _
 ·rename_i hc;obtain ⟨ha,hz⟩:=hn e (List.mem_of_getElem? he);simp only [getD_set _ _ _ _ (show e.z<t.d.length by rw [h.dl];exact hz)]
  split
  ·rename_i hzv;subst hzv;have:¬ t.d.getD e.z 0<=t.d.getD e.a 0+e.m:=fun x=>hc (.inr x)
   omega
  ·exact Int.le_refl _
theorem passK_le (hn:∀ e∈es,e.a<n/\e.z<n) {t:St} (h:Inv es s n far t) (k v:Nat):(passK far es k t).d.getD v 0<=t.d.getD v 0:=by
 induction k with
 | zero=>exact Int.le_refl _
 | succ k ih =>
  simp only [BF.passK]
  split
  ·exact Int.le_trans (relax1_le hn (h.passK hn k) _ _ (by assumption) v) ih
  ·exact ih
theorem passK_le2 (hn:∀ e∈es,e.a<n/\e.z<n) {t:St} (h:Inv es s n far t) (v:Nat):∀ j k,k<=j->(passK far es j t).d.getD v 0<=(passK far es k t).d.getD v 0
 | 0,k,hk=>by
  obtain rfl:k=0:=by omega
  exact Int.le_refl _
 | j+1,k,hk=>by
  by_cases hkj:k=j+1
  ·subst hkj;exact Int.le_refl _
  ·have ih:=passK_le2 hn h v j k (by omega)
   refine Int.le_trans ?_ ih;simp only [BF.passK]
   split
   ·exact relax1_le hn (h.passK hn j) _ _ (by assumption) v
   ·exact Int.le_refl _
theorem passK_edge (hn:∀ e∈es,e.a<n/\e.z<n) {t:St} (h:Inv es s n far t) (i k:Nat) (e:Ed) (he:es[i]?=some e) (hk:i<k) (hf:t.d.getD e.a 0≠far):(passK far es k t).d.getD e.z 0<=t.d.getD e.a 0+e.m:=by
 have h1:=passK_le2 hn h e.z k (i+1) hk;refine Int.le_trans h1 ?_;have hi:=h.passK hn i;have h2:=passK_le hn h i e.a;have ht:=hi.top e.a (hn e (List.mem_of_getElem? he)).1;have ht0:=h.top e.a (hn e (List.mem_of_getElem? he)).1;simp only [BF.passK,he];unfold relax1
 split
 ·rename_i hc;rcases hc with hc | hc
  ·omega
  ·omega
 ·simp only [getD_set _ _ _ _ (show e.z<(BF.passK far es i t).d.length by rw [hi.dl];exact (hn e (List.mem_of_getElem? he)).2)]
  simp only [if_true];omega
def Made (es:List Ed) (s r:Nat) (t:St):Prop:=∀ v k W,k<=r->Way es s v k W->t.d.getD v 0<=W
theorem Made.pass (hn:∀ e∈es,e.a<n/\e.z<n) (hM:∀ e∈es,-M<=e.m/\e.m<=M) (hM0:0<=M) {t:St} {r:Nat} (hf:(r*M:Int)<far) (h:Inv es s n far t) (hr:Made es s r t):Made es s (r+1) (BF.pass far es t):=by
 intro v k W hk w;cases w with
 | nil=>exact Int.le_trans (passK_le hn (h.flag false) _ _) (hr _ 0 0 (by omega) .nil)
 | @snoc k W e w he =>
  obtain ⟨i,hi,hie⟩:=List.getElem_of_mem he;have h1:=hr _ k W (by omega) w
  have hb:=(w.bound hM).2;have hkr:(k*M:Int)<=r*M:=Int.mul_le_mul_of_nonneg_right (by omega) hM0
  have h2:=passK_edge hn (h.flag false) i es.length e (by rw [List.getElem?_eq_getElem hi,hie]) hi (by simp only;omega)
  simp only at h2;unfold BF.pass;omega
theorem passK_still {t:St}:∀ k,(passK far es k t).ch=false->passK far es k t=t/\∀ i e,i<k->es[i]?=some e->(t.d.getD e.a 0=far\/t.d.getD e.z 0<=t.d.getD e.a 0+e.m)
 | 0,_=>⟨rfl,fun i e hi=>by omega⟩
 | k+1,h=>by
  simp only [BF.passK] at h ⊢;cases hek:es[k]? with
  | none =>
   simp only [hek] at h ⊢;obtain ⟨a,b⟩:=passK_still k h;exact ⟨a,fun i e hi he=>by
    by_cases hik:i=k
    ·subst hik;rw [hek] at he;cases he
    ·exact b i e (by omega) he⟩
  | some e =>
   simp only [hek] at h ⊢;unfold relax1 at h ⊢
   split at h
   ·rename_i hc;obtain ⟨a,b⟩:=passK_still k h;rw [if_pos hc];refine ⟨a,fun i x hi hx=>?_⟩
    by_cases hik:i=k
    ·subst hik;rw [hek] at hx;injection hx with hx
     subst hx;rw [a] at hc;exact hc
    ·exact b i x (by omega) hx
   ·cases h
def rounds (far:Int) (es:List Ed):Nat->St->Option St
 | 0,_=>none
 | f+1,t=>if (pass far es t).ch then rounds far es f (pass far es t) else some (pass far es t)
theorem rounds_inv (hn:∀ e∈es,e.a<n/\e.z<n) {f:Nat} {t u:St} (h:Inv es s n far t) (hu:rounds far es f t=some u):Inv es s n far u/\∀ e∈es,u.d.getD e.a 0=far\/u.d.getD e.z 0<=u.d.getD e.a 0+e.m:=by
 induction f generalizing t with
 | zero=>cases hu
 | succ f ih =>
  simp only [rounds] at hu
  split at hu
  ·exact ih (h.pass hn) hu
  ·rename_i hc;injection hu with hu
   subst hu;refine ⟨h.pass hn,fun e he=>?_⟩
   obtain ⟨i,hi,hie⟩:=List.getElem_of_mem he;have hs:=passK_still (t:=⟨t.d,t.p,false⟩) es.length (by simpa [BF.pass] using hc)
   have:=hs.2 i e hi (by rw [List.getElem?_eq_getElem hi,hie])
   unfold BF.pass;rw [hs.1];exact this
theorem rounds_src (hn:∀ e∈es,e.a<n/\e.z<n) {f:Nat} {t u:St} (h:Inv es s n far t) (h0:t.d.getD s 0<=0) (hu:rounds far es f t=some u):u.d.getD s 0<=0:=by
 induction f generalizing t with
 | zero=>cases hu
 | succ f ih =>
  simp only [rounds] at hu;have h1:(BF.pass far es t).d.getD s 0<=0:=Int.le_trans (passK_le hn (h.flag false) _ _) h0
  split at hu
  ·exact ih (h.pass hn) h1 hu
  ·injection hu with hu
   subst hu;exact h1
theorem no_change (hn:∀ e∈es,e.a<n/\e.z<n) {h:Nat->Int} (hp:∀ e∈es,h e.z<=h e.a+e.m) (hs:s<n) {t:St} {r:Nat} (hi:Inv es s n far t) (hr:Made es s r t) (hnr:n<=r+1):(pass far es t).ch=false:=by
 have key:∀ k,BF.passK far es k ⟨t.d,t.p,false⟩=⟨t.d,t.p,false⟩:=by
  intro k
  induction k with
  | zero=>rfl
  | succ k ih =>
   simp only [BF.passK]
   split
   ·rename_i e he;rw [ih];unfold relax1;simp only
    split
    ·rfl
    ·rename_i hc;have hc1:t.d.getD e.a 0≠far:=fun x=>hc (.inl x)
     have hem:=List.mem_of_getElem? he;obtain ⟨k',hk'⟩:=hi.way e.a (hn e hem).1 hc1;obtain ⟨j,X,g1,g2,g3⟩:=Way.short hp hn hs _ _ _ (Way.snoc hk' hem);have:=hr _ j X (by omega) g3
     omega
   ·exact ih
 unfold BF.pass;rw [key]
theorem rounds_some (hn:∀ e∈es,e.a<n/\e.z<n) {h:Nat->Int} (hp:∀ e∈es,h e.z<=h e.a+e.m) (hs:s<n) (hM:∀ e∈es,-M<=e.m/\e.m<=M) (hM0:0<=M):∀ (f r:Nat) (t:St),r<n->Inv es s n far t->Made es s r t->n<r+f->((r+f:Nat)*M:Int)<far->∃ u,rounds far es f t=some u
 | 0,r,t,hrn,hi,hr,hnr,hf=>by omega
 | f+1,r,t,hrn,hi,hr,hnr,hf=>by
  simp only [rounds]
  split
  ·rename_i hc;have hrM:(r*M:Int)<=((r+(f+1):Nat):Int)*M:=Int.mul_le_mul_of_nonneg_right (by omega) hM0
   by_cases hn0:n<=r+1
   ·rw [no_change hn hp hs hi hr hn0] at hc;cases hc
   ·exact rounds_some hn hp hs hM hM0 f (r+1) _ (by omega) (hi.pass hn) (hr.pass hn hM hM0 (by omega) hi) (by omega) (by rw [show r+1+f=r+(f+1) by omega];exact hf)
  ·exact ⟨_,rfl⟩
def par (es:List Ed) (t:St) (v:Nat):Nat:=(es[(t.p.getD v 0).toNat]?.getD ⟨0,0,0⟩).a
def back (es:List Ed) (t:St) (v:Nat):Nat->Nat
 | 0=>v
 | j+1=>par es t (back es t v j)
theorem back_add (t:St) (v i:Nat):∀ j,back es t v (i+j)=back es t (back es t v i) j
 | 0=>rfl
 | j+1=>by show par es t (back es t v (i+j))=par es t _;rw [back_add t v i j]
theorem back_lt (hn:∀ e∈es,e.a<n/\e.z<n) {t:St} (h:Inv es s n far t) {v:Nat} (hv:v<n) (hf:t.d.getD v 0≠far):∀ j,(∀ i,i<j->t.p.getD (back es t v i) 0 ≠ -1)->back es t v j<n/\t.d.getD (back es t v j) 0≠far/\∃ W,From es (back es t v j) v j W/\t.d.getD (back es t v j) 0+W<=t.d.getD v 0
 | 0,_=>⟨hv,hf,0,.nil _,by show t.d.getD v 0+0<=_;omega⟩
 | j+1,hj=>by
  obtain ⟨a,b,W,c,d⟩:=back_lt hn h hv hf j (fun i hi=>hj i (by omega))
  rcases h.par _ a with ⟨g,_⟩ | ⟨i,e,g1,g2,g3,g4,g5,g6⟩
  ·exact absurd g (hj j (by omega))
  ·have e1:back es t v (j+1)=e.a:=by
    show par es t (back es t v j)=_
    unfold par;rw [g2];simp [g1]
   rw [e1];have hem:=List.mem_of_getElem? g1;refine ⟨(hn e hem).1,g4,e.m+W,?_,by omega⟩
   have:=From.head hem (g3 ▸ c);exact this
theorem back_ever (hn:∀ e∈es,e.a<n/\e.z<n) {t u:St} {r:Nat} (hi:Inv es s n far u) (hm:Made es s r t) (hnr:n<=r) {v:Nat} (hv:v<n) (hlt:u.d.getD v 0<t.d.getD v 0) (htop:t.d.getD v 0<=far):∀ j,u.p.getD (back es u v j) 0 ≠ -1:=by
 have hf:u.d.getD v 0≠far:=by omega
 intro j
 induction j using Nat.strongRecOn with
 | _ j ih =>
  intro hp;obtain ⟨a,b,W,c,d⟩:=back_lt hn hi hv hf j (fun i hij=>ih i hij)
  rcases hi.par _ a with ⟨_,g⟩ | ⟨i,e,g1,g2,_⟩
  ·rcases g with g | ⟨g1,g2⟩
   ·exact b g
   ·have hjn:j<n:=by
     refine Nat.lt_of_not_le fun hnj=>?_
     obtain ⟨x,y,h1,h2,h3⟩:=pigeon n (fun i=>back es u v i) (fun i hin=>by
      exact (back_lt hn hi hv hf i (fun k hk=>ih k (by omega))).1)
     have h3':back es u v x=back es u v y:=h3;have e1:back es u v j=back es u v (x+(j - y)):=by
      rw [back_add,h3',<- back_add]
      congr 1
      omega
     exact ih (x+(j - y)) (by omega) (e1 ▸ hp)
    rw [g1] at c g2;have hw:=Way.append (.nil:Way es s s 0 0) c;have:=hm v (0+j) (0+W) (by omega) hw
    rw [g1,g2] at d;omega
  ·rw [g2] at hp;omega
theorem back_again (hn:∀ e∈es,e.a<n/\e.z<n) {t:St} (h:Inv es s n far t) {v:Nat} (hv:v<n) (hf:t.d.getD v 0≠far) (hj:∀ j,t.p.getD (back es t v j) 0 ≠ -1):∃ p,1<=p/\p<=n/\back es t v (n+1+p)=back es t v (n+1):=by
 obtain ⟨x,y,h1,h2,h3⟩:=pigeon n (fun i=>back es t v i) (fun i _=>(back_lt hn h hv hf i (fun k _=>hj k)).1)
 have h3':back es t v x=back es t v y:=h3;refine ⟨y - x,by omega,by omega,?_⟩
 have e1:n+1+(y - x)=y+(n+1 - x):=by omega
 have e2:n+1=x+(n+1 - x):=by omega
 rw [e1,back_add,<- h3',<- back_add,<- e2]
theorem rounds_mono (hn:∀ e∈es,e.a<n/\e.z<n) {es':List Ed} (hn':∀ e∈es',e.a<n/\e.z<n) (hsub:∀ e∈es',e∈es) {f f':Nat} {t t' u u':St} (h:Inv es s n far t) (h':Inv es' s n far t') (h0:t.d.getD s 0<=0) (hu:rounds far es f t=some u) (hu':rounds far es' f' t'=some u') (hall:∀ v,v<n->u.d.getD v 0≠far) (v:Nat) (hv:v<n):u.d.getD v 0<=u'.d.getD v 0:=by
 obtain ⟨a,b⟩:=rounds_inv hn h hu;obtain ⟨a',b'⟩:=rounds_inv hn' h' hu'
 by_cases hf:u'.d.getD v 0=far
 ·rw [hf];exact a.top v hv
 ·obtain ⟨k,w⟩:=a'.way v hv hf;have hp:∀ e∈es',u.d.getD e.z 0<=u.d.getD e.a 0+e.m:=fun e he=>by
   rcases b e (hsub e he) with g | g
   ·exact absurd g (hall _ (hn' e he).1)
   ·exact g
  have h1:=w.le_pot (h:=fun x=>u.d.getD x 0) hp
  have h2:u.d.getD s 0<=0:=rounds_src hn h h0 hu;omega
end BF
end
section
def cmpZ (a b:Int):Int:=if a<b then -1 else if b<a then 1 else 0
def orZ (a b:Int):Int:=if a=0 then b else a
def Ab.name (n:Ab):Int×Int:=(n.house,n.num)
def Ab.ref (n:Ab):Int×Int:=(n.rh,n.rn)
def Dt (a b:Int×Int):Int:=orZ (cmpZ a.1 b.1) (cmpZ a.2 b.2)
def Hf (a b:Ab):Int:=orZ (cmpZ a.clock b.clock) (Dt a.name b.name)
def whenC (a b:Ab):Int:=orZ (cmpZ a.day b.day) (Hf a b)
def Dy (a b:Int×Int):Prop:=a.1<b.1\/(a.1=b.1/\a.2<b.2)
def Dg (a b:Ab):Prop:=a.clock<b.clock\/(a.clock=b.clock/\Dy a.name b.name)
def Dk (a b:Ab):Prop:=a.day<b.day\/(a.day=b.day/\Dg a b)
theorem cmpZ_lt (a b:Int):cmpZ a b<0↔a<b:=by unfold cmpZ;split<;>(try split)<;>omega
theorem cmpZ_eq (a b:Int):cmpZ a b=0↔a=b:=by unfold cmpZ;split<;>(try split)<;>omega
theorem orZ_lt (a b:Int):orZ a b<0↔a<0\/(a=0/\b<0):=by unfold orZ;split<;>omega
theorem cmpName_lt (a b:Int×Int):Dt a b<0↔Dy a b:=by unfold Dt Dy;rw [orZ_lt,cmpZ_lt,cmpZ_lt,cmpZ_eq]
theorem knownC_lt (a b:Ab):Hf a b<0↔Dg a b:=by unfold Hf Dg;rw [orZ_lt,cmpZ_lt,cmpName_lt,cmpZ_eq]
theorem whenC_lt (a b:Ab):whenC a b<0↔Dk a b:=by unfold whenC Dk;rw [orZ_lt,cmpZ_lt,knownC_lt,cmpZ_eq]
theorem nameLt_tri (a b:Int×Int):Dy a b\/a=b\/Dy b a:=by
 unfold Dy
 by_cases h:a.1=b.1/\a.2=b.2
 ·exact .inr (.inl (Prod.ext h.1 h.2))
 ·omega
theorem nameLt_irrefl (a:Int×Int):¬ Dy a a:=by unfold Dy;omega
theorem nameLt_trans {a b c:Int×Int} (h:Dy a b) (h2:Dy b c):Dy a c:=by unfold Dy at *;omega
theorem Hx {a b:Ab} (h:Dg a b):¬ Dg b a:=by unfold Dg Dy at *;omega
theorem knownLt_trans {a b c:Ab} (h:Dg a b) (h2:Dg b c):Dg a c:=by unfold Dg Dy at *;omega
theorem knownLt_tri (a b:Ab):Dg a b\/a.name=b.name\/Dg b a:=by
 rcases nameLt_tri a.name b.name with h | h | h
 ·unfold Dg;unfold Dy at *;omega
 ·exact .inr (.inl h)
 ·unfold Dg;unfold Dy at *;omega
theorem whenLt_asymm {a b:Ab} (h:Dk a b):¬ Dk b a:=by unfold Dk Dg Dy at *;omega
theorem whenLt_trans {a b c:Ab} (h:Dk a b) (h2:Dk b c):Dk a c:=by unfold Dk Dg Dy at *;omega
theorem whenLt_tri (a b:Ab):Dk a b\/a.name=b.name\/Dk b a:=by
 rcases knownLt_tri a b with h | h | h
 ·unfold Dk;unfold Dg Dy at *;omega
 ·exact .inr (.inl h)
 ·unfold Dk;unfold Dg Dy at *;omega
def Gw (n:Ab):Bool:=inB n.kind 1 4
def Jp (x r:Ab):Bool:=x.kind == 6 || (x.kind == 5 && (x.fix != 2 || r.kind == 2))
def cand (r x:Ab):Bool:=!Gw x && (x.ref == r.name && Jp x r)
def best:List Ab->Option Ab
 | []=>none
 | x :: l=>match best l with
  | none=>some x
  | some y=>if Hf y x<0 then some x else some y
def Eq (r j:Ab):Ab:=if j.fix=2 then { j with house:=r.house,num:=r.num,clock:=r.clock,kind:=j.fix,fix:=0,rh:=r.rh,rn:=r.rn } else { j with house:=r.house,num:=r.num,clock:=r.clock,kind:=j.fix,fix:=0,rh:=0,rn:=0 }
theorem countsN_name (r j:Ab):(Eq r j).name=r.name:=by unfold Eq;split<;>rfl
def effOf (n:Ab):Option Ab->Option Ab
 | none=>some n
 | some j=>if j.kind=6 then none else some (Eq n j)
def eff (N:List Ab) (n:Ab):Option Ab:=if Gw n then effOf n (best (N.filter (cand n))) else none
theorem best_mem:∀ {l:List Ab} {j:Ab},best l=some j->j∈l
 | [],_,h=>by cases h
 | x :: l,j,h=>by
  simp only [best] at h
  split at h
  ·injection h with h;simp [h]
  ·rename_i y hy
   split at h
   ·injection h with h;simp [h]
   ·injection h with h;subst h;exact List.mem_cons_of_mem _ (best_mem hy)
theorem best_none:∀ {l:List Ab},best l=none->l=[]
 | [],_=>rfl
 | x :: l,h=>by
  simp only [best] at h
  split at h
  ·cases h
  ·split at h<;>cases h
theorem best_le:∀ {l:List Ab} {j:Ab},best l=some j->∀ x∈l,¬ Dg j x
 | [],_,h=>by cases h
 | x :: l,j,h=>by
  simp only [best] at h;intro y hy
  split at h
  ·rename_i hb;injection h with h
   subst h;rw [best_none hb] at hy;simp at hy;subst hy;exact fun h=>Hx h h
  ·rename_i z hz;have ih:=best_le hz
   split at h
   ·rename_i hlt;injection h with h
    subst h;rw [knownC_lt] at hlt;rcases List.mem_cons.1 hy with rfl | hy
    ·exact fun h=>Hx h h
    ·exact fun h=>ih y hy (knownLt_trans hlt h)
   ·rename_i hlt;injection h with h
    subst h;rw [knownC_lt] at hlt;rcases List.mem_cons.1 hy with rfl | hy
    ·exact hlt
    ·exact ih y hy
theorem best_eq {l:List Ab} {j:Ab} (hj:j∈l) (hn:∀ x∈l,∀ y∈l,x.name=y.name->x=y) (hb:∀ x∈l,¬ Dg j x):best l=some j:=by
 cases h:best l with
 | none=>rw [best_none h] at hj;cases hj
 | some y =>
  have h1:=best_mem h;have h2:=best_le h j hj;have h3:=hb y h1;rcases knownLt_tri j y with g | g | g
  ·exact absurd g h3
  ·rw [hn j hj y h1 g]
  ·exact absurd g h2
theorem eff_name {N:List Ab} {n m:Ab} (h:eff N n=some m):m.name=n.name:=by
 unfold eff effOf at h
 split at h
 ·split at h
  ·injection h with h;rw [h]
  ·split at h
   ·cases h
   ·injection h with h;rw [<- h,countsN_name]
 ·cases h
def Jv (N:List Ab):List Ab:=N.filterMap (eff N)
def Co (s:List Ab×List Ab) (x:Ab):List Ab×List Ab :=
 if x.kind=1 then (if s.1.length=8 then s else (s.1 ++ [x],s.2))
 else if x.kind=2 then (if x.ref∈s.1.map Ab.name then (s.1,s.2 ++ [x]) else s)
 else (s.1,s.2 ++ [x])
def regOf (L:List Ab):List Ab×List Ab:=L.foldl Co ([],[])
theorem sorted_unique:∀ {l m:List Ab},l.Pairwise Dk->m.Pairwise Dk->(∀ x,x∈l↔x∈m)->l=m
 | [],[],_,_,_=>rfl
 | [],y :: m,_,_,h=>by have:=(h y).2 (by simp);cases this
 | x :: l,[],_,_,h=>by have:=(h x).1 (by simp);cases this
 | x :: l,y :: m,hl,hm,h=>by
  rw [List.pairwise_cons] at hl hm;have hxy:x=y:=by
   have h1:=(h x).1 (by simp)
   have h2:=(h y).2 (by simp)
   rcases List.mem_cons.1 h1 with h1 | h1
   ·exact h1
   ·rcases List.mem_cons.1 h2 with h2 | h2
    ·exact h2.symm
    ·exact absurd (hl.1 y h2) (whenLt_asymm (hm.1 x h1))
  subst hxy
  congr 1
  refine sorted_unique hl.2 hm.2 fun z=>⟨fun hz=>?_,fun hz=>?_⟩
  ·rcases List.mem_cons.1 ((h z).1 (List.mem_cons_of_mem _ hz)) with g | g
   ·subst g;exact absurd (hl.1 _ hz) (whenLt_asymm (hl.1 _ hz))
   ·exact g
  ·rcases List.mem_cons.1 ((h z).2 (List.mem_cons_of_mem _ hz)) with g | g
   ·subst g;exact absurd (hm.1 _ hz) (whenLt_asymm (hm.1 _ hz))
   ·exact g
theorem regOf_filter (p:Ab->Bool):∀ (L:List Ab) (s:List Ab×List Ab),(∀ x∈L,p x=false->x.kind=3)->(∀ x∈s.1,p x=true)->(∀ x∈L,x.kind=1->p x=true)->
  (L.filter p).foldl Co (s.1,s.2.filter p)=((L.foldl Co s).1,(L.foldl Co s).2.filter p)
 | [],s,_,_,_=>rfl
 | x :: L,s,h,h1,h2=>by
  have ih:=regOf_filter p L (Co s x) (fun y hy=>h y (by simp [hy])) (fun y hy=>by
   unfold Co at hy
   split at hy
   ·rename_i hk
    split at hy
    ·exact h1 y hy
    ·simp at hy;rcases hy with hy | rfl
     ·exact h1 y hy
     ·exact h2 _ (by simp) hk
   ·split at hy
    ·split at hy
     ·exact h1 y hy
     ·exact h1 y hy
    ·exact h1 y hy) (fun y hy=>h2 y (by simp [hy]))
  rw [List.foldl_cons,<- ih];cases hp:p x with
  | false =>
   have hk:=h x (by simp) hp
   rw [List.filter_cons];simp only [hp,Bool.false_eq_true,if_false]
   congr 1
   unfold Co;simp [hk,hp]
  | true =>
   rw [List.filter_cons];simp only [hp,if_true,List.foldl_cons]
   congr 1
   unfold Co;simp only
   split
   ·split<;>rfl
   ·split
    ·split
     ·simp [hp]
     ·rfl
    ·simp [hp]
theorem filter_cand_ne {N:List Ab} {out n:Ab} (h:out.ref≠n.name):(N ++ [out]).filter (cand n)=N.filter (cand n):=by
 rw [List.filter_append];have:cand n out=false:=by unfold cand;simp [h]
 simp [this]
theorem reg_mem:∀ (L:List Ab) (s:List Ab×List Ab) (x:Ab),(x∈(L.foldl Co s).1->x∈s.1\/x∈L)/\(x∈(L.foldl Co s).2->x∈s.2\/x∈L)
 | [],s,x=>⟨.inl,.inl⟩
 | y :: L,s,x=>by
  obtain ⟨a,b⟩:=reg_mem L (Co s y) x;have c:(x∈(Co s y).1->x∈s.1\/x=y)/\(x∈(Co s y).2->x∈s.2\/x=y):=by
   unfold Co
   split
   ·split
    ·exact ⟨.inl,.inl⟩
    ·exact ⟨fun h=>by simpa using h,.inl⟩
   ·split
    ·split
     ·exact ⟨.inl,fun h=>by simpa using h⟩
     ·exact ⟨.inl,.inl⟩
    ·exact ⟨.inl,fun h=>by simpa using h⟩
  rw [List.foldl_cons];refine ⟨fun h=>?_,fun h=>?_⟩
  ·rcases a h with h | h
   ·rcases c.1 h with h | h
    ·exact .inl h
    ·exact .inr (by simp [h])
   ·exact .inr (List.mem_cons_of_mem _ h)
  ·rcases b h with h | h
   ·rcases c.2 h with h | h
    ·exact .inl h
    ·exact .inr (by simp [h])
   ·exact .inr (List.mem_cons_of_mem _ h)
theorem reg_sub:∀ (L:List Ab) (s:List Ab×List Ab),((L.foldl Co s).2).Sublist (s.2 ++ L)
 | [],s=>by simp
 | y :: L,s=>by
  rw [List.foldl_cons];refine (reg_sub L (Co s y)).trans ?_;have c:(Co s y).2=s.2\/(Co s y).2=s.2 ++ [y]:=by
   unfold Co
   split
   ·split<;>exact .inl rfl
   ·split
    ·split
     ·exact .inr rfl
     ·exact .inl rfl
    ·exact .inr rfl
  rcases c with c | c<;>rw [c]
  ·exact List.Sublist.append_left (List.sublist_cons_self _ _) _
  ·simp
theorem filter_erase:∀ (E:List Ab) (k:Int×Int) (i:Nat) (x:Ab),(E.map Ab.name).Nodup->E[i]?=some x->x.name=k->E.filter (fun y=>!(y.name == k))=E.eraseIdx i
 | [],_,_,_,_,h,_=>by simp at h
 | y :: E,k,0,x,hn,h,hx=>by
  simp at h;subst h;simp only [List.map_cons,List.nodup_cons] at hn;rw [List.filter_cons];simp only [hx,beq_self_eq_true,Bool.not_true,Bool.false_eq_true,if_false,List.eraseIdx_zero,List.tail_cons];refine List.filter_eq_self.2 fun z hz=>?_
  simp only [Bool.not_eq_true',beq_eq_false_iff_ne];intro e;exact hn.1 (by rw [hx,<- e];exact List.mem_map.2 ⟨z,hz,rfl⟩)
 | y :: E,k,i+1,x,hn,h,hx=>by
  simp only [List.map_cons,List.nodup_cons] at hn;have h':E[i]?=some x:=by simpa using h
  have hne:(!(y.name == k))=true:=by
   simp only [Bool.not_eq_true',beq_eq_false_iff_ne];intro e;exact hn.1 (by rw [e,<- hx];exact List.mem_map.2 ⟨x,List.mem_of_getElem? h',rfl⟩)
  rw [List.filter_cons,if_pos hne,List.eraseIdx_cons_succ,filter_erase E k i x hn.2 h' hx]
theorem Ke {N:List Ab} (hn:(N.map Ab.name).Nodup) {x y:Ab} (hx:x∈N) (hy:y∈N) (h:x.name=y.name):x=y:=by
 obtain ⟨i,hi,rfl⟩:=List.getElem_of_mem hx;obtain ⟨j,hj,rfl⟩:=List.getElem_of_mem hy;have:i=j:=(List.getElem_inj (h₀:=by simpa using hi) (h₁:=by simpa using hj) hn).1 (by simpa using h)
 subst this;rfl
theorem evs_names {N:List Ab}:∀ (M:List Ab),((M.filterMap (eff N)).map Ab.name).Sublist (M.map Ab.name)
 | []=>by simp
 | x :: M=>by
  rw [List.filterMap_cons]
  split
  ·exact (evs_names M).trans (List.sublist_cons_self _ _)
  ·rename_i m hm;rw [List.map_cons,List.map_cons,eff_name hm];exact (evs_names M).cons_cons _
theorem evs_strike (f g:Ab->Option Ab) (k:Int×Int):∀ (M:List Ab),(∀ n∈M,g n=if n.name=k then none else f n)->(∀ n m,f n=some m->m.name=n.name)->M.filterMap g=(M.filterMap f).filter (fun y=>!(y.name == k))
 | [],_,_=>rfl
 | x :: M,h,hf=>by
  have ih:=evs_strike f g k M (fun n hn=>h n (by simp [hn])) hf
  have hx:=h x (by simp)
  rw [List.filterMap_cons,List.filterMap_cons,hx,ih];cases hfx:f x with
  | none=>split<;>simp_all
  | some m =>
   have hm:=hf x m hfx
   by_cases hk:x.name=k
   ·rw [if_pos hk];simp [hm,hk]
   ·rw [if_neg hk];simp [hm,hk]
theorem forget_law {N L L':List Ab} {out:Ab} {which:Nat} {x:Ab}
  (hn:(N.map Ab.name).Nodup) (hL:L.Perm (Jv N)) (hs:L.Pairwise Dk)
  (ho:out.kind=6) (hno:out.name ∉ N.map Ab.name) (hon:∀ y∈N,Dg y out) (hox:out.ref=x.name)
  (hx:(regOf L).2[which]?=some x) (hk:x.kind=3)
  (hL':L'.Perm (Jv (N ++ [out]))) (hs':L'.Pairwise Dk) :
  regOf L'=((regOf L).1,(regOf L).2.eraseIdx which):=by
 have hxL:x∈L:=by
  rcases (reg_mem L ([],[]) x).2 (List.mem_of_getElem? hx) with h | h
  ·cases h
  ·exact h
 have hLn:(L.map Ab.name).Nodup:=(hL.map Ab.name).nodup_iff.2 (List.Nodup.sublist (evs_names N) hn);have hod:Gw out=false:=by unfold Gw inB;rw [ho];rfl
 -- what the notes count for
 have hev:∀ n∈N,eff (N ++ [out]) n=if n.name=x.name then none else eff N n:=by
  intro n hnN
  split
  ·rename_i he;unfold eff
   split
   ·have hc:cand n out=true:=by unfold cand Jp;simp [hod,ho,hox,he]
    have hb:best ((N ++ [out]).filter (cand n))=some out:=by
     refine best_eq (by simp [hc]) (fun a ha b hb hab=>?_) (fun y hy=>?_)
     ·have ha1:=List.mem_append.1 (List.mem_filter.1 ha).1;have hb1:=List.mem_append.1 (List.mem_filter.1 hb).1;clear ha hb;rcases ha1 with ha1 | ha1
      ·rcases hb1 with hb1 | hb1
       ·exact Ke hn ha1 hb1 hab
       ·have e:=List.mem_singleton.1 hb1;subst e;exact absurd (List.mem_map.2 ⟨a,ha1,hab⟩) hno
      ·have e:=List.mem_singleton.1 ha1;subst e;rcases hb1 with hb1 | hb1
       ·exact absurd (List.mem_map.2 ⟨b,hb1,hab.symm⟩) hno
       ·exact (List.mem_singleton.1 hb1).symm
     ·have hy:=(List.mem_filter.1 hy).1;simp at hy;rcases hy with hy | rfl
      ·exact Hx (hon y hy)
      ·exact fun h=>Hx h h
    rw [hb];simp [effOf,ho]
   ·rfl
  ·rename_i he;unfold eff;rw [filter_cand_ne (by rw [hox];exact fun h=>he h.symm)]
 have hout:eff (N ++ [out]) out=none:=by unfold eff;simp [hod]
 have hevs:Jv (N ++ [out])=(Jv N).filter (fun y=>!(y.name == x.name)):=by
  unfold Jv;rw [List.filterMap_append];have h1:[out].filterMap (eff (N ++ [out]))=[]:=by simp [hout]
  rw [h1,List.append_nil];exact evs_strike _ _ _ N hev (fun n m h=>eff_name h)
 have hp:L'.Perm (L.filter (fun y=>!(y.name == x.name))):=by
  rw [hevs] at hL';exact hL'.trans (hL.symm.filter _)
 have hLL:L'=L.filter (fun y=>!(y.name == x.name)):=sorted_unique hs' (hs.filter _) (fun z=>hp.mem_iff)
 have hkk:∀ y∈L,(!(y.name == x.name))=false->y=x:=fun y hy h=>Ke hLn hy hxL (by simpa using h)
 have h1:=regOf_filter (fun y=>!(y.name == x.name)) L ([],[]) (fun y hy h=>by rw [hkk y hy h];exact hk) (fun y hy=>by cases hy) (fun y hy h=>by
  cases hb:(!(y.name == x.name)) with
  | true=>rfl
  | false=>rw [hkk y hy hb,hk] at h;omega)
 have hEn:((regOf L).2.map Ab.name).Nodup:=by
  have:=(reg_sub L ([],[])).map Ab.name;exact List.Nodup.sublist (by simpa [regOf] using this) hLn
 have h2:=filter_erase (regOf L).2 x.name which x hEn hx rfl;rw [hLL];unfold regOf at h2 ⊢;rw [<- h2];exact h1
end
section
theorem orV_two (a b:Int):orV [a,b]=orZ a b:=by
 simp only [orV,orZ]
 split
 ·split<;>omega
 ·rfl
theorem compareNames_any (a b:Int×Int) (w:World):Calls Tryz.prog 90 #[Ee a.1 a.2,Ee b.1 b.2] w fun e w'=>e=.returned (.int .i64 (Dt a b))/\Below w.heap.size w w':=by
 obtain ⟨a1,a2⟩:=a;obtain ⟨b1,b2⟩:=b;have HV:Hid (Dt (a1,a2) (b1,b2)=orV [Jl a1 b1,Jl a2 b2]):=by rw [orV_two];exact Hd rfl
 simp only;unfold Ee;obtain ⟨W,hW⟩:∃ W,(w.alloc (.cells #[.int .i64 a1,.int .i64 a2] 66)).alloc (.cells #[.int .i64 b1,.int .i64 b2] 66)=W:=⟨_,rfl⟩;have hbW:Below w.heap.size w W:=by rw [<- hW];exact Ba.alloc (by simp) _
 have Y:Bk W w.heap.size 66 #[.int .i64 a1,.int .i64 a2]:=by rw [<- hW];exact (Aa rfl).alloc _
 have Z:Bk W (w.heap.size+1) 66 #[.int .i64 b1,.int .i64 b2]:=by rw [<- hW];exact Aa (by simp)
 have y0:=Y.cell 0;have y1:=Y.cell 1;have z0:=Z.cell 0;have z1:=Z.cell 1;simp at y0 y1 z0 z1;have HW:=Hd hW;clear hW Y Z;go_enter Tryz.func90,Tryz.ntmps90;go_upto_region 1 with fail
 rw [HW.out];clear HW;refine By 10 (by kernel_rfl) (by kernel_rfl) (fun _ _ d _ _ h=>by cases d<;>exact h) ?_
 simp only [List.take_succ_cons,List.take_zero,List.drop_succ_cons,List.drop_zero];replace y0:=fun x:Ext W=>Ag x.bel y0
 replace y1:=fun x:Ext W=>Ag x.bel y1
 replace z0:=fun x:Ext W=>Ag x.bel z0
 replace z1:=fun x:Ext W=>Ag x.bel z1
 repeat (go_big_quiet_step ((go_at_call 129;exact ext_same (cmpI_any _ _ _))))
 refine wpQuiet_nil ?_;rintro _ ⟨y,rfl⟩;clear y0 y1 z0 z1;have hb2:=y.bel;generalize y.w=w2 at hb2 ⊢;have hB:=hbW.trans (hb2.mono hbW.size);generalize Jl a1 b1=q0 at *;generalize Jl a2 b2=q1 at *;have hR:Ad (w2.alloc (.cells #[.int .i64 q0,.int .i64 q1] 3)) (some ⟨w2.heap.size,0,none⟩) (Ac [q0,q1]):=fun _=>⟨w2.heap.size,0,rfl,by simp,fun j u hu=>by
  have:=two_at w2 (.int .i64 q0) (.int .i64 q1) 3 w2.heap.size rfl j u hu
  rwa [De] at this⟩
 have HO:=Hd (or_any _ 2 [q0,q1] _ hR (by simp))
 clear hR;go_wp2_with (go_at_call 128;refine (HO.out).mono ?_;rintro e w' ⟨rfl,rfl⟩);go_ret;exact ⟨by rw [HV.out];rfl,hB.alloc hB.size _⟩
theorem Ah {w:World} {g:Nat} (n:Ab) (h:Bk w g 68 n.arr):Hb 68 (.pointer (some ⟨g,0,none⟩)) w=.ok (.agg n.arr) w :=
 loadN_eq h rfl Tryz.underlying68 (by kernel_rfl)
attribute [local go_sem ↓] Cd Bu
theorem known_any (a b:Ab) (w:World):Calls Tryz.prog 86 #[.agg a.arr,.agg b.arr] w fun e w'=>e=.returned (.int .i64 (Hf a b))/\Below w.heap.size w w':=by
 have HV:Hid (Hf a b=orV [Jl a.clock b.clock,Dt a.name b.name]):=by rw [orV_two];exact Hd rfl
 obtain ⟨W,hW⟩:∃ W,(w.alloc (.cells a.arr 68)).alloc (.cells b.arr 68)=W:=⟨_,rfl⟩;have hbW:Below w.heap.size w W:=by rw [<- hW];exact Ba.alloc (by simp) _
 have Y:Bk W w.heap.size 68 a.arr:=by rw [<- hW];exact (Aa rfl).alloc _
 have Z:Bk W (w.heap.size+1) 68 b.arr:=by rw [<- hW];exact Aa (by simp)
 have y2:=Y.cell 2;have z2:=Z.cell 2;simp [Ab.arr] at y2 z2;have l0:=fun x:Ext W=>Ah a (Y.keep x.bel)
 have l1:=fun x:Ext W=>Ah b (Z.keep x.bel)
 have HN1:=Hd (fun x:Ext W=>Dx a x.w)
 have HN2:=Hd (fun x:Ext W=>Dx b x.w)
 have HCN:=Hd (fun x:Ext W=>compareNames_any a.name b.name x.w)
 unfold Ee Ab.name at HCN;simp only at HCN;have HW:=Hd hW;clear hW Y Z;go_enter Tryz.func86,Tryz.ntmps86;go_upto_region 1 with fail
 rw [HW.out];clear HW;refine By 10 (by kernel_rfl) (by kernel_rfl) (fun _ _ d _ _ h=>by cases d<;>exact h) ?_
 simp only [List.take_succ_cons,List.take_zero,List.drop_succ_cons,List.drop_zero];replace y2:=fun x:Ext W=>Ag x.bel y2
 replace z2:=fun x:Ext W=>Ag x.bel z2
 repeat (go_big_quiet_step (first | (go_at_call 129;exact ext_same (cmpI_any _ _ _)) | (go_at_call 73;(first | with_reducible exact Cj (HN1.out _) | with_reducible exact Cj (HN2.out _))) | (go_at_call 90;exact Cj (HCN.out _))))
 refine wpQuiet_nil ?_;rintro _ ⟨y,rfl⟩;clear y2 z2 l0 l1 HN1 HN2 HCN;have hb2:=y.bel;generalize y.w=w2 at hb2 ⊢;have hB:=hbW.trans (hb2.mono hbW.size);unfold Ab.name at HV;generalize Jl a.clock b.clock=q0 at *;generalize Dt (a.house,a.num) (b.house,b.num)=q1 at *;have hR:Ad (w2.alloc (.cells #[.int .i64 q0,.int .i64 q1] 3)) (some ⟨w2.heap.size,0,none⟩) (Ac [q0,q1]):=fun _=>⟨w2.heap.size,0,rfl,by simp,fun j u hu=>by
  have:=two_at w2 (.int .i64 q0) (.int .i64 q1) 3 w2.heap.size rfl j u hu
  rwa [De] at this⟩
 have HO:=Hd (or_any _ 2 [q0,q1] _ hR (by simp))
 clear hR;go_wp2_with (go_at_call 128;refine (HO.out).mono ?_;rintro e w' ⟨rfl,rfl⟩);go_ret;exact ⟨by rw [HV.out];rfl,hB.alloc hB.size _⟩
end
section
def Fb (kind:Int) (n:Ab):Value :=
 if kind=1 then .iface 281 (.agg #[.int .i64 n.hlo,.int .i64 n.hhi])
 else if kind=2 then .iface 283 (.agg #[.int .i64 n.turns])
 else if kind=3 then .iface 285 (.agg #[.int .i64 n.stone,.int .i64 n.a,.int .i64 n.b])
 else if kind=4 then .iface 287 (.agg #[.int .i64 n.stone,.int .i64 n.ring])
 else if kind=5\/kind=6 then .iface 289 (.agg #[.int .i64 n.rh,.int .i64 n.rn])
 else .nilIface
theorem Ft (kind:Int) (n:Ab) (w:World):Calls Tryz.prog 160 #[.int .i64 kind,.agg n.arr] w fun e w'=>e=.returned (Fb kind n)/\Below w.heap.size w w':=by
 obtain ⟨W,hW⟩:∃ W,w.alloc (.cells n.arr 68)=W:=⟨_,rfl⟩;have hbW:Below w.heap.size w W:=by rw [<- hW];exact Ba
 have X:=(show Bk W w.heap.size 68 n.arr by rw [<- hW];exact Aa rfl)
 have x5:=X.cell 5;have x7:=X.cell 7;have x8:=X.cell 8;have x9:=X.cell 9;have x12:=X.cell 12;have x13:=X.cell 13;have x14:=X.cell 14;have x16:=X.cell 16;have x17:=X.cell 17;simp [Ab.arr] at x5 x7 x8 x9 x12 x13 x14 x16 x17;have HW:=Hd hW;clear hW X
 by_cases k1:kind=1
 ·subst k1;have HV:Hid (Fb 1 n=.iface 281 (.agg #[.int .i64 n.hlo,.int .i64 n.hhi])):=by unfold Fb;exact Hd rfl
  go_enter Tryz.func160,Tryz.ntmps160;go_upto_region 1 with fail
  rw [HW.out];clear HW;go_wp2_with fail;go_ret;exact ⟨by rw [HV.out];rfl,hbW⟩
 have n1:(kind == 1)=false:=by simpa using k1
 by_cases k2:kind=2
 ·subst k2;have HV:Hid (Fb 2 n=.iface 283 (.agg #[.int .i64 n.turns])):=by unfold Fb;exact Hd rfl
  go_enter Tryz.func160,Tryz.ntmps160;go_upto_region 1 with fail
  rw [HW.out];clear HW;go_wp2_with fail;go_ret;exact ⟨by rw [HV.out];rfl,hbW⟩
 have n2:(kind == 2)=false:=by simpa using k2
 by_cases k3:kind=3
 ·subst k3;have HV:Hid (Fb 3 n=.iface 285 (.agg #[.int .i64 n.stone,.int .i64 n.a,.int .i64 n.b])):=by unfold Fb;exact Hd rfl
  go_enter Tryz.func160,Tryz.ntmps160;go_upto_region 1 with fail
  rw [HW.out];clear HW;go_wp2_with fail;go_ret;exact ⟨by rw [HV.out];rfl,hbW⟩
 have n3:(kind == 3)=false:=by simpa using k3
 by_cases k4:kind=4
 ·subst k4;have HV:Hid (Fb 4 n=.iface 287 (.agg #[.int .i64 n.stone,.int .i64 n.ring])):=by unfold Fb;exact Hd rfl
  go_enter Tryz.func160,Tryz.ntmps160;go_upto_region 1 with fail
  rw [HW.out];clear HW;go_wp2_with fail;go_ret;exact ⟨by rw [HV.out];rfl,hbW⟩
 have n4:(kind == 4)=false:=by simpa using k4
 by_cases k5:kind=5
 ·subst k5;have HV:Hid (Fb 5 n=.iface 289 (.agg #[.int .i64 n.rh,.int .i64 n.rn])):=by unfold Fb;exact Hd rfl
  go_enter Tryz.func160,Tryz.ntmps160;go_upto_region 1 with fail
  rw [HW.out];clear HW;go_wp2_with fail;go_ret;exact ⟨by rw [HV.out];rfl,hbW⟩
 have n5:(kind == 5)=false:=by simpa using k5
 by_cases k6:kind=6
 ·subst k6;have HV:Hid (Fb 6 n=.iface 289 (.agg #[.int .i64 n.rh,.int .i64 n.rn])):=by unfold Fb;exact Hd rfl
  go_enter Tryz.func160,Tryz.ntmps160;go_upto_region 1 with fail
  rw [HW.out];clear HW;go_wp2_with fail;go_ret;exact ⟨by rw [HV.out];rfl,hbW⟩
 have n6:(kind == 6)=false:=by simpa using k6
 have HV:Hid (Fb kind n=.nilIface):=by unfold Fb;refine Hd ?_;rw [if_neg k1,if_neg k2,if_neg k3,if_neg k4,if_neg (by omega)]
 clear k1 k2 k3 k4 k5 k6;go_enter Tryz.func160,Tryz.ntmps160;go_upto_region 1 with fail
 rw [HW.out];clear HW;go_wp2_with fail;go_ret;exact ⟨by rw [HV.out];rfl,hbW⟩
end
end Go.Proofs.YteihcodicfoiaaaGreat
