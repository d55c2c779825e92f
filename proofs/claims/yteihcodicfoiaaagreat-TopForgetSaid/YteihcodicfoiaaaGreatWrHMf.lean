/-
  What is proved: the contract of the iterator of the bounds of a world.
-/
import Derived.Test.YteihcodicfoiaaaGreat46Mf
namespace Go.Proofs.YteihcodicfoiaaaGreat
set_option maxRecDepth 100000
set_option maxHeartbeats 8000000
open Go Go.RowKit
attribute [local go_sem] Oper.semAt_some
theorem row5 {α:Type} (f:α->List Value) (hf:∀ x,(f x).length=5) (d:α) {w:World} {A:Option Addr} {l:List α} (h:Ad w A (l.flatMap f)) (h0:0<l.length) :
  ∃ b off,A=some ⟨b,off,none⟩/\b<w.heap.size/\∀ k,k<l.length->∀ j u,(f (l.getD k d))[j]?=some u->w.cell? ⟨b,off+k*5+j,none⟩=some u:=by
 have hl:(l.flatMap f).length=l.length*5:=Ci f 5 hf l;obtain ⟨b,off,h1,h2,h3⟩:=h.some_ (by omega)
 refine ⟨b,off,h1,h2,fun k hk j u hu=>?_⟩
 have hj:j<5:=by have:=(List.getElem?_eq_some_iff.1 hu).1;rw [hf] at this;exact this
 rw [Aj _ _ hk] at hu;have:=Cw f 5 hf (by decide) l k j hk hj
 have:=h3 (k*5+j) u (this.trans hu)
 rwa [<- Nat.add_assoc] at this
theorem bndSt_len (st:List (Int×Int)) (k:Nat):(bndSt st k).length=k*2:=by rw [bndSt,Jo _ 2 _ (fun _ _=>rfl)];simp
theorem bndSp1_len (s:Bh) (i:Nat) (wd:List Int) (k:Nat):(Km s i wd k).length=k*2:=by rw [Km,Jo _ 2 _ (fun _ _=>rfl)];simp
theorem bndSp_len (n:Nat) (S:List Bh) (wd:List Int) (k:Nat):(bndSp n S wd k).length=k*(n*2):=by
 rw [bndSp,Jo _ (n*2) _ (fun i _=>bndSp1_len _ _ _ _)];simp
theorem bndRd_len (R:List Da) (k:Nat):(Jy R k).length=k*2:=by rw [Jy,Jo _ 2 _ (fun _ _=>rfl)];simp
theorem bndSt_succ (st:List (Int×Int)) (k:Nat):bndSt st (k+1)=bndSt st k ++ Ey (-1,0) ((k:Int),0) (st.getD k (0,0)).2 (-(st.getD k (0,0)).1) 1 k:=Gp _ k
theorem bndSp1_succ (s:Bh) (i:Nat) (wd:List Int) (k:Nat):Km s i wd (k+1)=Km s i wd k ++ Ey ((k:Int),(i:Int)) ((k:Int),(i:Int)+1) (-(Ef s k wd).1) (Ef s k wd).2 2 i:=Gp _ k
theorem bndSp_succ (n:Nat) (S:List Bh) (wd:List Int) (k:Nat):bndSp n S wd (k+1)=bndSp n S wd k ++ Km (S.getD k ⟨0,0,[],none,0,0,0⟩) k wd n:=Gp _ k
theorem bndRd_succ (R:List Da) (k:Nat):Jy R (k+1)=Jy R k ++ Ey (Jd (R.getD k ⟨0,0,0,0,0⟩)) ((R.getD k ⟨0,0,0,0,0⟩).a,(R.getD k ⟨0,0,0,0,0⟩).sl) (R.getD k ⟨0,0,0,0,0⟩).hi (-(R.getD k ⟨0,0,0,0,0⟩).lo) 3 k:=Gp _ k
theorem falls_bd {n nh c:Nat} {s:Bh} {wd:List Int} (hs:StepOk n nh s) (hc:c<n) (hwd:∀ i,0<=wd.getD i 0/\wd.getD i 0<=255):(0<=(Ef s c wd).1/\(Ef s c wd).1<=1000000000000)/\(0<=(Ef s c wd).2/\(Ef s c wd).2<=1000000000000):=by
 have hct:c<s.times.length:=by rw [hs.len];exact hc
 have ht:s.times.getD c 0∈s.times:=by rw [Aj _ _ hct];exact List.getElem_mem hct
 unfold Ef;rcases hs.kind with ⟨h1,h2,h3,h4⟩ | ⟨h1,h2,h3,h4⟩
 ·rw [if_pos h1];have h5:=h4 _ ht;have h6:=hwd s.heap.toNat;generalize s.times.getD c 0=t at *;generalize wd.getD s.heap.toNat 0=h at *;have a1:0<=t*h:=Int.mul_nonneg h5.1 h6.1;have a2:t*h<=10000000*255:=Int.mul_le_mul h5.2 h6.2 h6.1 (by omega)
  simp only;omega
 ·rw [if_neg (by omega)]
  have h5:=h4 _ ht;generalize s.times.getD c 0=t at *;have a1:0<=t*s.dlo:=Int.mul_nonneg h5.1 h3.1;have a2:t*s.dlo<=100*100000:=Int.mul_le_mul h5.2 (by omega) h3.1 (by omega)
  have a3:0<=t*s.dhi:=Int.mul_nonneg h5.1 (by omega)
  have a4:t*s.dhi<=100*100000:=Int.mul_le_mul h5.2 h3.2.2 (by omega) (by omega)
  simp only;omega
structure BndI (w0 W:World) (l y:Nat) (J:List Ao->World->Prop) (L:List Ao) (X:World):Prop where
 j:J L X
 y:Bk X y 352 #[.func (.yield l) #[] #[]]
 b:Below w0.heap.size w0 X
 z:W.heap.size<=X.heap.size
theorem BndI.next {w0 W X Y:World} {l y:Nat} {J:List Ao->World->Prop} {L L':List Ao} (h:BndI w0 W l y J L X) (hJ:J L' Y) (hk:KpB w0.heap.size X Y):BndI w0 W l y J L' Y :=
 ⟨hJ,hk.bk (.inl rfl) h.y,h.b.trans hk.1,Nat.le_trans h.z hk.1.size⟩
theorem BndI.below {w0 W X Y:World} {l y B:Nat} {J:List Ao->World->Prop} {L:List Ao} (hJ:AbidesFrom B J) (h:BndI w0 W l y J L X) (hb:Below X.heap.size X Y):BndI w0 W l y J L Y :=
 ⟨hJ _ X Y none h.j (Hh hb) (fun r e=>by cases e),h.y.keep hb,h.b.trans (hb.mono h.b.size),Nat.le_trans h.z hb.size⟩
theorem bounds_stops (n q1 q2:Nat) (D:Ap) (hD:D.Ok) (wd:List Int) (hwl:wd.length=D.hp.length) (hwr:∀ i,0<=wd.getD i 0/\wd.getD i 0<=255) (A:Option Addr) (cA:Nat) (w0 w:World) (hAt:D.At w0) (hA:Ad w0 A (Ac wd))
  (hb1:Bk w0 q1 55 D.arr) (hb2:Bk w0 q2 22 #[.slice A wd.length cA]) (hw0:Below w0.heap.size w0 w) :
  SeqStopsK Fence.wide n Tryz.prog 219 #[.pointer (some ⟨q1,0,none⟩),.pointer (some ⟨q2,0,none⟩)] encB (KpB w0.heap.size) (fun xs=>xs=Ae D wd) (fun _=>True) 1000 w:=by
 intro l J Jx W hW hJ hJx hY h0;have hw1:Below w0.heap.size w0 W:=hw0.trans (hW.mono hw0.size);obtain ⟨V,hV⟩:∃ V,W.alloc (.cells #[.func (.yield l) #[] #[]] 352)=V:=⟨_,rfl⟩;have hbV:Below W.heap.size W V:=by rw [<- hV];exact Ba
 have Y:Bk V W.heap.size 352 #[.func (.yield l) #[] #[]]:=by rw [<- hV];exact Aa rfl
 have hI0:BndI w0 V l W.heap.size J (bndSt D.st 0) V:=⟨hJ _ W V none h0 (Hh hbV) (fun r e=>by cases e),Y,hw1.trans (hbV.mono hw1.size),Nat.le_refl _⟩
 have HI0:=Hd hI0;have HBT:=Hd (fun (k:Nat) (a z:Int×Int) (most back kind d:Int) (pre:List Ao) (X:World) (h:BndI w0 V l W.heap.size J pre X) (hl:pre.length+1<1000) =>
  (both_in k (n - 1) l W.heap.size w0.heap.size W.heap.size J Jx hJ hY a z most back kind d pre X h.b.size h.y h.j hl).mono fun e X' he=>(show (e=.returned (.bool true)/\BndI w0 V l W.heap.size J (pre ++ Ey a z most back kind d) X'/\KpB w0.heap.size X X')\/(e=.returned (.bool false)/\∃ p,Jx p X') from he.imp (fun g=>⟨g.1,h.next g.2.1 g.2.2,g.2.2⟩) (fun g=>g)))
 have HBL:=Hd (fun (pre:List Ao) (X Y:World) (h:BndI w0 V l W.heap.size J pre X) (hb:Below X.heap.size X Y)=>h.below hJ hb)
 have HV:=Hd hV;have HQ:=Hd (fun (X:World) (h:Below w0.heap.size w0 X)=>Ai (hb1.below h hb1.lt) (Ai (hb2.below h hb2.lt) (Ai (hAt.below h) (hA.below h))))
 have hn:=hD.n;have HD:=Hd hD;have HWD:=Hd (Ai hwl hwr);have HQ0:=HQ.out V hI0.b;have x0:=HQ0.1.cell 0;have x2:=HQ0.1.cell 2;have x3:=HQ0.1.cell 3;simp [Ap.arr] at x0 x2 x3;clear hV hbV Y hI0 h0 hY hJ hJx hAt hA hb1 hb2 hw0 hW hw1 HQ0 hwl hwr;refine callsIn_of_wp Tryz.func219 rfl trivial ?_ rfl;simp only [Tryz.ntmps219,List.size_toArray,List.length_cons,List.length_nil,Nat.reduceAdd,Nat.reduceSub,Array.replicate_succ,Array.replicate_zero,List.push_toArray,List.append_toArray,List.nil_append,List.cons_append];refine wpIn_wide.2 ?_;go_upto_region 1 with fail
 rw [HV.out];clear HV;go_upto_region 3 with fail
 clear x0 x2 x3;refine (wpIn_wide (n:=n)).1 ?_;gi_loopw [18] (fun v wr=>∃ k:Nat,k<=D.st.length/\v=.int .i64 k/\Hid (BndI w0 V l W.heap.size J (bndSt D.st k) wr)) (fun v _=>D.st.length - (intOf v).toNat)
 case atStart=>exact ⟨0,Nat.zero_le _,rfl,HI0⟩
 case round =>
  clear HI0;obtain ⟨k,hk,rfl,HI⟩:=hrel
  by_cases hlt:k<D.st.length
  ·have hkI:(k:Int)<D.st.length:=by omega
   have HX:=Hd (bndSt_succ D.st k);obtain ⟨b5,o5,hA5,hb5,hc5⟩:=span_row (HQ.out wr HI.out.b).2.2.1.r1 (by omega)
   obtain ⟨c0,c1⟩:=hc5 k hlt;have hst:=HD.out.st _ (List.getElem_mem hlt);rw [<- Aj _ (0,0) hlt] at hst;rw [hA5];clear hA5 hc5;generalize (D.st.getD k (0,0)).1=lo at *;generalize (D.st.getD k (0,0)).2=hi at *;refine (wpIn_wide (n:=n)).2 ?_;go_upto_region 5 with fail
   have hb6:Below wr.heap.size wr (wr.alloc (.cells #[.int .i64 lo,.int .i64 hi] 29)):=Ba;have X6:Bk (wr.alloc (.cells #[.int .i64 lo,.int .i64 hi] 29)) wr.heap.size 29 #[.int .i64 lo,.int .i64 hi]:=Aa rfl;have HI6:=Hd (HBL.out _ _ _ HI.out hb6);clear c0 c1 hb5 HI hb6;generalize wr.alloc (.cells #[.int .i64 lo,.int .i64 hi] 29)=w5 at *;generalize wr.heap.size=q6 at *;have x0:=X6.cell 0;have x1:=X6.cell 1;simp at x0 x1;have F0:=fun x:Ext w5=>Ag x.bel x0
   have F1:=fun x:Ext w5=>Ag x.bel x1
   clear x0 x1 X6;refine (wpIn_wide (n:=n)).1 ?_;have KG:Hid (∀ x:Ext w5,Calls Tryz.prog 147 #[] x.w fun e w'=>e=.returned (.agg #[.int .i64 (-1),.int .i64 0])/\Below x.w.heap.size x.w w'):=fun x=>ground_any x.w
   refine Jc 10 (by kernel_rfl) (by kernel_rfl) (by kernel_rfl) ?_
   simp only [List.take_succ_cons,List.take_zero,List.drop_succ_cons,List.drop_zero];repeat (go_big_quiet_step ((go_at_call 147;exact Cj (KG.out _))))
   refine wpQuiet_nil ?_;rintro _ ⟨x,rfl⟩;clear F0 F1 KG;have hIx:=HBL.out _ _ _ HI6.out x.bel;have hBC:=HBT.out (n - 1) (-1,0) ((k:Int),0) hi (-lo) 1 k _ _ hIx (by rw [bndSt_len];have:=hn;omega)
   rw [<- HX.out] at hBC;have HBC:=Hd hBC;clear hIx hBC;gi_wp2;refine ⟨trivial,fun h=>(by simp [Fence.wide] at h),HBC.out.mono ?_⟩
   rintro e W7 (⟨rfl,hI7,-⟩ | ⟨rfl,hx7⟩)
   ·have HE:=Hd hI7;clear hI7 HBC HX HI6;gi_wp2;go_wp2_with fail;go_roundw
    case rel=>exact ⟨k+1,by omega,by go_num,HE⟩
    case measure=>simp [intOf];omega
   ·have HE:=Hd hx7;clear hx7 HBC HX HI6;gi_wp2;go_wp2_with fail;refine bodyPost_ret (results_none rfl _ _ _) rfl ?_;exact ⟨⟨_,rfl⟩,.inr (HE.out.imp fun p hp=>⟨trivial,hp⟩)⟩
  ·obtain rfl:k=D.st.length:=by omega
   have HI1:Hid (BndI w0 V l W.heap.size J (bndSt D.st D.st.length ++ bndSp D.st.length D.S wd 0) wr):=Hd (by rw [show bndSp D.st.length D.S wd 0=[] from rfl,List.append_nil];exact HI.out)
   clear HI hlt hk;have x2:=(HQ.out wr HI1.out.b).1.cell 2;simp [Ap.arr] at x2;refine (wpIn_wide (n:=n)).2 ?_;go_upto_region 8 with fail
   clear x2;refine (wpIn_wide (n:=n)).1 ?_;gi_loopw [39] (fun v wr=>∃ i:Nat,i<=D.S.length/\v=.int .i64 i/\Hid (BndI w0 V l W.heap.size J (bndSt D.st D.st.length ++ bndSp D.st.length D.S wd i) wr)) (fun v _=>D.S.length - (intOf v).toNat)
   case atStart=>exact ⟨0,Nat.zero_le _,rfl,HI1⟩
   case round =>
    clear HI1;obtain ⟨i,hi,rfl,HI⟩:=hrel
    by_cases hlt:i<D.S.length
    ·have hiI:(i:Int)<D.S.length:=by omega
     have HX:=Hd (bndSp_succ D.st.length D.S wd i);obtain ⟨b6,o6,hA6,hb6,hc6⟩:=row5 Bh.cells (fun _=>rfl) ⟨0,0,[],none,0,0,0⟩ (HQ.out wr HI.out.b).2.2.1.r3 (by omega)
     have d0:=hc6 i hlt 0 _ rfl;have d1:=hc6 i hlt 1 _ rfl;have d2:=hc6 i hlt 2 _ rfl;have d3:=hc6 i hlt 3 _ rfl;have d4:=hc6 i hlt 4 _ rfl;have hmem:D.S.getD i ⟨0,0,[],none,0,0,0⟩∈D.S:=by rw [Aj _ _ hlt];exact List.getElem_mem hlt
     have HOK:=Hd (Ai (HD.out.sp _ hmem) (fun (X:World) (h:Below w0.heap.size w0 X)=>(HQ.out X h).2.2.1.tm _ hmem))
     have hs10:=HD.out.s10;rw [hA6];clear hA6 hc6 hmem;generalize D.S.getD i ⟨0,0,[],none,0,0,0⟩=s at *;simp only [Nat.add_zero] at d0;have x0:=(HQ.out wr HI.out.b).1.cell 0;have xl:=(HQ.out wr HI.out.b).1.lt;simp [Ap.arr] at x0;refine (wpIn_wide (n:=n)).2 ?_;go_upto_region 11 with fail
     clear x0 xl d0 d1 d2 d3 d4;have hb8:Below wr.heap.size wr (wr.alloc (.cells #[.int .i64 s.kind,.int .i64 s.heap,.slice s.tA s.times.length s.tc,.int .i64 s.dlo,.int .i64 s.dhi] 62)):=Ba;have X8:Bk (wr.alloc (.cells #[.int .i64 s.kind,.int .i64 s.heap,.slice s.tA s.times.length s.tc,.int .i64 s.dlo,.int .i64 s.dhi] 62)) wr.heap.size 62 #[.int .i64 s.kind,.int .i64 s.heap,.slice s.tA s.times.length s.tc,.int .i64 s.dlo,.int .i64 s.dhi]:=Aa rfl;have HI8:Hid (BndI w0 V l W.heap.size J (bndSt D.st D.st.length ++ bndSp D.st.length D.S wd i ++ Km s i wd 0) (wr.alloc (.cells #[.int .i64 s.kind,.int .i64 s.heap,.slice s.tA s.times.length s.tc,.int .i64 s.dlo,.int .i64 s.dhi] 62))/\Bk (wr.alloc (.cells #[.int .i64 s.kind,.int .i64 s.heap,.slice s.tA s.times.length s.tc,.int .i64 s.dlo,.int .i64 s.dhi] 62)) wr.heap.size 62 #[.int .i64 s.kind,.int .i64 s.heap,.slice s.tA s.times.length s.tc,.int .i64 s.dlo,.int .i64 s.dhi]):=Hd ⟨by rw [show Km s i wd 0=[] from rfl,List.append_nil];exact HBL.out _ _ _ HI.out hb8,X8⟩
     clear X8 hb8 HI hb6;generalize wr.alloc (.cells #[.int .i64 s.kind,.int .i64 s.heap,.slice s.tA s.times.length s.tc,.int .i64 s.dlo,.int .i64 s.dhi] 62)=w8 at *;generalize wr.heap.size=q8 at *;refine (wpIn_wide (n:=n)).1 ?_;gi_loopw [47] (fun v ws=>∃ c:Nat,c<=D.st.length/\v=.int .i64 c/\Hid (BndI w0 V l W.heap.size J (bndSt D.st D.st.length ++ bndSp D.st.length D.S wd i ++ Km s i wd c) ws/\Bk ws q8 62 #[.int .i64 s.kind,.int .i64 s.heap,.slice s.tA s.times.length s.tc,.int .i64 s.dlo,.int .i64 s.dhi])) (fun v _=>D.st.length - (intOf v).toNat)
     case atStart=>exact ⟨0,Nat.zero_le _,rfl,HI8⟩
     case round =>
      clear HI8;obtain ⟨c,hc,rfl,HI⟩:=hrel
      by_cases hltc:c<D.st.length
      ·have hcI:(c:Int)<D.st.length:=by omega
       have HX1:=Hd (bndSp1_succ s i wd c);have hfb:=falls_bd HOK.out.1 hltc HWD.out.2;have HF:=Hd (show Calls Tryz.prog 221 #[.agg #[.int .i64 s.kind,.int .i64 s.heap,.slice s.tA s.times.length s.tc,.int .i64 s.dlo,.int .i64 s.dhi],.int .i64 c,.slice A wd.length cA] wr (fun e w'=>e=.returned (.agg #[.int .i64 (Ef s c wd).1,.int .i64 (Ef s c wd).2])/\Below wr.heap.size wr w') from
        falls_any s D.st.length D.hp.length c A cA wd wr HOK.out.1 hltc HWD.out.1 HWD.out.2 (HOK.out.2 _ HI.out.1.b) (HQ.out _ HI.out.1.b).2.2.2 (by omega))
       generalize (Ef s c wd).1=f1 at *;generalize (Ef s c wd).2=f2 at *;have HQ1:=HQ.out _ HI.out.1.b;have x2:=HQ1.2.1.cell 0;have e0:=HI.out.2.cell 0;have e1:=HI.out.2.cell 1;have e2:=HI.out.2.cell 2;have e3:=HI.out.2.cell 3;have e4:=HI.out.2.cell 4;simp at x2 e0 e1 e2 e3 e4;clear HQ1;refine (wpIn_wide (n:=n)).2 ?_;go_upto_region 14 with (go_at_call 221;refine HF.out.mono ?_;rintro e w9 ⟨rfl,hb9⟩;have HB9:=Hd hb9;clear hb9)
       have hb10:Below wr.heap.size wr (w9.alloc (.cells #[.int .i64 f1,.int .i64 f2] 29)):=HB9.out.alloc HB9.out.size _;have X10:Bk (w9.alloc (.cells #[.int .i64 f1,.int .i64 f2] 29)) w9.heap.size 29 #[.int .i64 f1,.int .i64 f2]:=Aa rfl;have HI10:=Hd (Ai (HBL.out _ _ _ HI.out.1 hb10) (HI.out.2.keep hb10));clear HI HB9 hb10 x2 e0 e1 e2 e3 e4 HF;generalize w9.alloc (.cells #[.int .i64 f1,.int .i64 f2] 29)=w10 at *;generalize w9.heap.size=q10 at *;have y0:=X10.cell 0;have y1:=X10.cell 1;simp at y0 y1;clear X10;have hBC:=HBT.out (n - 1) ((c:Int),(i:Int)) ((c:Int),(i:Int)+1) (-f1) f2 2 i _ _ HI10.out.1 (by
        rw [List.length_append,List.length_append,bndSt_len,bndSp_len,bndSp1_len];have h1:i*(D.st.length*2)<=10*48:=Nat.mul_le_mul (by omega) (by omega)
        omega)
       rw [List.append_assoc,<- HX1.out] at hBC;have HBC:=Hd hBC;clear hBC;refine (wpIn_wide (n:=n)).1 ?_;gi_wp2;refine ⟨trivial,fun h=>(by simp [Fence.wide] at h),HBC.out.mono ?_⟩
       rintro e W7 (⟨rfl,hI7,hk7⟩ | ⟨rfl,hx7⟩)
       ·have HE:=Hd (Ai hI7 (hk7.bk (.inr (.inr rfl)) HI10.out.2));clear hI7 hk7 HBC HX1 HI10 y0 y1;gi_wp2;go_wp2_with fail;go_roundw
        case rel=>exact ⟨c+1,by omega,by go_num,HE⟩
        case measure=>simp [intOf];omega
       ·have HE:=Hd hx7;clear hx7 HBC HX1 HI10 y0 y1;gi_wp2;go_wp2_with fail;refine bodyPost_ret (results_none rfl _ _ _) rfl ?_;exact ⟨⟨_,rfl⟩,.inr (HE.out.imp fun p hp=>⟨trivial,hp⟩)⟩
      ·obtain rfl:c=D.st.length:=by omega
       have HE:Hid (BndI w0 V l W.heap.size J (bndSt D.st D.st.length ++ bndSp D.st.length D.S wd (i+1)) wr):=Hd (by rw [HX.out,<- List.append_assoc];exact HI.out.1)
       clear HI HX;gi_wp2;go_wp2_with fail;go_roundw
       case rel=>exact ⟨i+1,by omega,by go_num,HE⟩
       case measure=>simp [intOf];omega
    ·obtain rfl:i=D.S.length:=by omega
     have HI1:Hid (BndI w0 V l W.heap.size J (baseF D wd ++ Jy D.R 0) wr):=Hd (by rw [show Jy D.R 0=[] from rfl,List.append_nil];exact HI.out)
     clear HI hlt hi;have x3:=(HQ.out wr HI1.out.b).1.cell 3;simp [Ap.arr] at x3;refine (wpIn_wide (n:=n)).2 ?_;go_upto_region 18 with fail
     clear x3;refine (wpIn_wide (n:=n)).1 ?_;gi_loopw [75] (fun v wr=>∃ i:Nat,i<=D.R.length/\v=.int .i64 i/\Hid (BndI w0 V l W.heap.size J (baseF D wd ++ Jy D.R i) wr)) (fun v _=>D.R.length - (intOf v).toNat)
     case atStart=>exact ⟨0,Nat.zero_le _,rfl,HI1⟩
     case round =>
      clear HI1;obtain ⟨i,hi,rfl,HI⟩:=hrel
      by_cases hlt:i<D.R.length
      ·have hiI:(i:Int)<D.R.length:=by omega
       have HX:=Hd (bndRd_succ D.R i);obtain ⟨b6,o6,hA6,hb6,hc6⟩:=row5 Da.cells (fun _=>rfl) ⟨0,0,0,0,0⟩ (HQ.out wr HI.out.b).2.2.1.r4 (by omega)
       have d0:=hc6 i hlt 0 _ rfl;have d1:=hc6 i hlt 1 _ rfl;have d2:=hc6 i hlt 2 _ rfl;have d3:=hc6 i hlt 3 _ rfl;have d4:=hc6 i hlt 4 _ rfl;have hmem:D.R.getD i ⟨0,0,0,0,0⟩∈D.R:=by rw [Aj _ _ hlt];exact List.getElem_mem hlt
       have hrd:=(HD.out.rd _ hmem).d;have hrb:=(HD.out.rd _ hmem).b;have hs10:=HD.out.s10;have hr10:=HD.out.r10;rw [hA6];clear hA6 hc6 hmem;generalize D.R.getD i ⟨0,0,0,0,0⟩=r at *;simp only [Nat.add_zero] at d0;refine (wpIn_wide (n:=n)).2 ?_;go_upto_region 21 with fail
       have hb8:Below wr.heap.size wr ((wr.alloc (.cells #[.int .i64 r.sl,.int .i64 r.a,.int .i64 r.b,.int .i64 r.lo,.int .i64 r.hi] 186)).alloc (.cells #[.int .i64 r.b,.int .i64 r.sl] 141)):=Ba.alloc (by simp) _
       have X12:Bk ((wr.alloc (.cells #[.int .i64 r.sl,.int .i64 r.a,.int .i64 r.b,.int .i64 r.lo,.int .i64 r.hi] 186)).alloc (.cells #[.int .i64 r.b,.int .i64 r.sl] 141)) wr.heap.size 186 #[.int .i64 r.sl,.int .i64 r.a,.int .i64 r.b,.int .i64 r.lo,.int .i64 r.hi]:=(Aa rfl).alloc _;have X13:Bk ((wr.alloc (.cells #[.int .i64 r.sl,.int .i64 r.a,.int .i64 r.b,.int .i64 r.lo,.int .i64 r.hi] 186)).alloc (.cells #[.int .i64 r.b,.int .i64 r.sl] 141)) (wr.heap.size+1) 141 #[.int .i64 r.b,.int .i64 r.sl]:=Aa (by simp)
       clear d0 d1 d2 d3 d4 hb6;generalize ((wr.alloc (.cells #[.int .i64 r.sl,.int .i64 r.a,.int .i64 r.b,.int .i64 r.lo,.int .i64 r.hi] 186)).alloc (.cells #[.int .i64 r.b,.int .i64 r.sl] 141))=w8 at *;generalize hq12:wr.heap.size=q12 at *;have HQ12:=Hd hq12;have HB8:=Hd hb8;clear hq12 hb8;have x2:=X12.cell 2;simp at x2
       by_cases hneg:r.b<0
       ·have HX2:Hid (Jy D.R (i+1)=Jy D.R i ++ Ey (-1,0) (r.a,r.sl) r.hi (-r.lo) 3 i):=Hd (by rw [HX.out,show Jd r=(-1,0) from if_pos hneg])
        go_upto_region 23 with (go_at_call 147;refine (ground_any _).mono ?_;rintro e w9 ⟨rfl,hb9⟩;have X13:=X13.keep hb9;have k0:=X13.cell 0;have k1:=X13.cell 1;have f0:=X13.fz 0;have f1:=X13.fz 1;have kl:=X13.lt;simp at k0 k1)
        clear k0 k1 f0 f1 kl x2;have Y12:Bk ((w9.setCell ⟨q12+1,0,none⟩ (.int .i64 (-1))).setCell ⟨q12+1,1,none⟩ (.int .i64 0)) q12 186 #[.int .i64 r.sl,.int .i64 r.a,.int .i64 r.b,.int .i64 r.lo,.int .i64 r.hi]:=((X12.keep hb9).far (by simp) _).far (by simp) _
        have Y13:Bk ((w9.setCell ⟨q12+1,0,none⟩ (.int .i64 (-1))).setCell ⟨q12+1,1,none⟩ (.int .i64 0)) (q12+1) 141 #[.int .i64 (-1),.int .i64 0]:=by simpa using (X13.put 0 (.int .i64 (-1))).put 1 (.int .i64 0)
        have hbz:Below q12 wr ((w9.setCell ⟨q12+1,0,none⟩ (.int .i64 (-1))).setCell ⟨q12+1,1,none⟩ (.int .i64 0)):=((HB8.out.trans (hb9.mono (by rw [<- HQ12.out];exact HB8.out.size))).setCell (p:=⟨q12+1,0,none⟩) (by simp) _).setCell (p:=⟨q12+1,1,none⟩) (by simp) _
        have HI9:=Hd (HBL.out _ wr _ HI.out (by rw [HQ12.out];exact hbz))
        clear X12 X13 HI HB8 HQ12 hbz;generalize hwz:((w9.setCell ⟨q12 + 1,0,none⟩ (.int .i64 (-1))).setCell ⟨q12 + 1,1,none⟩ (.int .i64 0))=w10 at *;clear hwz;have x0:=Y12.cell 0;have x1:=Y12.cell 1;have x3:=Y12.cell 3;have x4:=Y12.cell 4;have y0:=Y13.cell 0;have y1:=Y13.cell 1;simp at x0 x1 x3 x4 y0 y1;have hBC:=HBT.out (n - 1) (-1,0) (r.a,r.sl) r.hi (-r.lo) 3 i _ _ HI9.out (by
         unfold baseF;rw [List.length_append,List.length_append,bndSt_len,bndSp_len,bndRd_len];have h1:D.S.length*(D.st.length*2)<=10*48:=Nat.mul_le_mul hs10 (by omega)
         omega)
        rw [List.append_assoc,<- HX2.out] at hBC;have HBC:=Hd hBC;clear hBC Y12 Y13;refine (wpIn_wide (n:=n)).1 ?_;gi_wp2;refine ⟨trivial,fun h=>(by simp [Fence.wide] at h),HBC.out.mono ?_⟩
        rintro e W7 (⟨rfl,hI7,-⟩ | ⟨rfl,hx7⟩)
        ·have HE:=Hd hI7;clear hI7 HBC HX HI9 x0 x1 x3 x4 y0 y1;gi_wp2;go_wp2_with fail;go_roundw
         case rel=>exact ⟨i+1,by omega,by go_num,HE⟩
         case measure=>simp [intOf];omega
        ·have HE:=Hd hx7;clear hx7 HBC HX HI9 x0 x1 x3 x4 y0 y1;gi_wp2;go_wp2_with fail;refine bodyPost_ret (results_none rfl _ _ _) rfl ?_;exact ⟨⟨_,rfl⟩,.inr (HE.out.imp fun p hp=>⟨trivial,hp⟩)⟩
       ·have HX2:Hid (Jy D.R (i+1)=Jy D.R i ++ Ey (r.b,r.sl) (r.a,r.sl) r.hi (-r.lo) 3 i):=Hd (by rw [HX.out,show Jd r=(r.b,r.sl) from if_neg hneg])
        go_upto_region 23 with fail
        clear x2;have Y12:=X12;have Y13:=X13;have hbz:=HB8.out;have HI9:=Hd (HBL.out _ wr _ HI.out (by rw [HQ12.out];exact hbz))
        clear X12 X13 HI HB8 HQ12 hbz;generalize hwz:w8=w10 at *;clear hwz;have x0:=Y12.cell 0;have x1:=Y12.cell 1;have x3:=Y12.cell 3;have x4:=Y12.cell 4;have y0:=Y13.cell 0;have y1:=Y13.cell 1;simp at x0 x1 x3 x4 y0 y1;have hBC:=HBT.out (n - 1) (r.b,r.sl) (r.a,r.sl) r.hi (-r.lo) 3 i _ _ HI9.out (by
         unfold baseF;rw [List.length_append,List.length_append,bndSt_len,bndSp_len,bndRd_len];have h1:D.S.length*(D.st.length*2)<=10*48:=Nat.mul_le_mul hs10 (by omega)
         omega)
        rw [List.append_assoc,<- HX2.out] at hBC;have HBC:=Hd hBC;clear hBC Y12 Y13;refine (wpIn_wide (n:=n)).1 ?_;gi_wp2;refine ⟨trivial,fun h=>(by simp [Fence.wide] at h),HBC.out.mono ?_⟩
        rintro e W7 (⟨rfl,hI7,-⟩ | ⟨rfl,hx7⟩)
        ·have HE:=Hd hI7;clear hI7 HBC HX HI9 x0 x1 x3 x4 y0 y1;gi_wp2;go_wp2_with fail;go_roundw
         case rel=>exact ⟨i+1,by omega,by go_num,HE⟩
         case measure=>simp [intOf];omega
        ·have HE:=Hd hx7;clear hx7 HBC HX HI9 x0 x1 x3 x4 y0 y1;gi_wp2;go_wp2_with fail;refine bodyPost_ret (results_none rfl _ _ _) rfl ?_;exact ⟨⟨_,rfl⟩,.inr (HE.out.imp fun p hp=>⟨trivial,hp⟩)⟩
      ·obtain rfl:i=D.R.length:=by omega
       have HE:=Hd HI.out.j;clear HI;gi_wp2;go_end0;exact ⟨⟨_,rfl⟩,.inl ⟨_,rfl,HE.out⟩⟩
end Go.Proofs.YteihcodicfoiaaaGreat
