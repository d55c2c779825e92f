/-
  What is proved: the contract of formed.
-/
import Derived.Test.YteihcodicfoiaaaGreatSaidMf
import Derived.Test.YteihcodicfoiaaaGreatSameMf
namespace Go.Proofs.YteihcodicfoiaaaGreat
set_option maxRecDepth 100000
set_option maxHeartbeats 8000000
open Go Go.RowKit
def Fz (n:Ab):Ab:=if n.kind=2 then { Az 2 n with rh:=0,rn:=0 } else if n.kind=5 then { Az n.fix (Az 5 n) with fix:=0 } else Az n.kind n
def ok1 (f:FrD) (n:Ab):Bool:=if n.kind=2 then Dd f 2 n && (inB n.rh 1 8 && inB n.rn 1 400) else if n.kind=5 then Dd f 5 n && (Dd f n.fix (Az 5 n) && inB n.fix 1 4) else Dd f n.kind n
def Gc (n:Ab):Ab:={ Fz n with house:=0,num:=0,clock:=0,day:=0,kind:=0 }
def Ar (f:FrD) (n:Ab):Bool:=ok1 f n && ((inB n.house 1 8 && inB n.num 1 400) && (inB n.clock 1 1099511627776 && (inB n.day 0 99999 && Fy (Gc n) Bq)))
theorem saidN_str (k:Int) (n:Ab):((Az k n).strokes=n.strokes/\(Az k n).sA=n.sA/\(Az k n).sc=n.sc)\/((Az k n).strokes=[]):=by
 unfold Az
 split
 ·exact .inl ⟨rfl,rfl,rfl⟩
 ·split
  ·exact .inl ⟨rfl,rfl,rfl⟩
  ·split
   ·exact .inl ⟨rfl,rfl,rfl⟩
   ·split
    ·exact .inr rfl
    ·split
     ·exact .inl ⟨rfl,rfl,rfl⟩
     ·exact .inl ⟨rfl,rfl,rfl⟩
theorem at_nil {n:Ab} {w:World} (h:n.strokes=[]):n.At w:=by unfold Ab.At;rw [h];intro h0;simp [Ac] at h0
theorem saidN_at {k:Int} {n:Ab} {w:World} (h:n.At w):(Az k n).At w:=by
 rcases saidN_str k n with ⟨h1,h2,_⟩ | h1
 ·unfold Ab.At;rw [h1,h2];exact h
 ·exact at_nil h1
theorem saidN_len {k:Int} {n:Ab} {M:Nat} (h:n.strokes.length<=M):(Az k n).strokes.length<=M:=by
 rcases saidN_str k n with ⟨h1,_⟩ | h1
 ·rw [h1];exact h
 ·rw [h1];exact Nat.zero_le _
theorem rest1_at {n:Ab} {w:World} (h:n.At w):(Fz n).At w:=by
 unfold Fz
 split
 ·exact saidN_at (k:=2) h
 ·split
  ·exact saidN_at (k:=n.fix) (saidN_at (k:=5) h)
  ·exact saidN_at h
theorem rest1_len {n:Ab} {M:Nat} (h:n.strokes.length<=M):(Fz n).strokes.length<=M:=by
 unfold Fz
 split
 ·exact saidN_len (k:=2) h
 ·split
  ·exact saidN_len (k:=n.fix) (saidN_len (k:=5) h)
  ·exact saidN_len h
structure FmAt (f:FrD) (n m:Ab) (q:Nat) (w U:World):Prop where
 fr:Bk U w.heap.size 112 #[.int .i64 f.rings,.int .i64 f.sec,.int .i64 f.wide]
 nt:Bk U (w.heap.size+1) 68 n.arr
 re:Bk U q 68 m.arr
 be:Below w.heap.size w U
theorem FmAt.keep {f:FrD} {n m:Ab} {q:Nat} {w U U':World} (h:FmAt f n m q w U) (hb:Below U.heap.size U U'):FmAt f n m q w U':=⟨h.fr.keep hb,h.nt.keep hb,h.re.keep hb,h.be.trans (hb.mono h.be.size)⟩
theorem FmAt.put {f:FrD} {n m m':Ab} {q:Nat} {w U:World} (h:FmAt f n m q w U) (hq:w.heap.size+2<=q) (c:Nat) (v:Value) (e:m.arr.setIfInBounds c v=m'.arr):FmAt f n m' q w (U.setCell ⟨q,c,none⟩ v) :=
 ⟨h.fr.far (by simp;omega) _,h.nt.far (by simp;omega) _,by rw [<- e];exact h.re.put c v,h.be.setCell (by simp;omega) _⟩
theorem FmAt.five {f:FrD} {n:Ab} {q:Nat} {w U:World} (h:FmAt f n (Fz n) q w U) (hq:w.heap.size+2<=q):FmAt f n (Gc n) q w (((((U.setCell ⟨q,0,none⟩ (.int .i64 0)).setCell ⟨q,1,none⟩ (.int .i64 0)).setCell ⟨q,2,none⟩ (.int .i64 0)).setCell ⟨q,3,none⟩ (.int .i64 0)).setCell ⟨q,4,none⟩ (.int .i64 0)) :=
 ((((h.put (m':={ Fz n with house:=0 }) hq 0 (.int .i64 0) rfl).put (m':={ Fz n with house:=0,num:=0 }) hq 1 (.int .i64 0) rfl).put (m':={ Fz n with house:=0,num:=0,clock:=0 }) hq 2 (.int .i64 0) rfl).put (m':={ Fz n with house:=0,num:=0,clock:=0,day:=0 }) hq 3 (.int .i64 0) rfl).put hq 4 (.int .i64 0) rfl
attribute [local go_sem ↓] Cd Bu Ek Dh
theorem formed_any (f:FrD) (n:Ab) (w:World) (hf:f.Ok) (hs:n.At w) (hn:n.strokes.length<=9223372036854775807) :
  Calls Tryz.prog 72 #[f.val,.agg n.arr] w fun e w'=>e=.returned (.bool (Ar f n))/\Below w.heap.size w w':=by
 have HSD:=Hd (fun (X:World) (h:Below w.heap.size w X)=>said_any f n.kind n X hf (hs.below h) hn)
 have HSD2:=Hd (fun (X:World) (h:Below w.heap.size w X) (k:Int)=>said_any f k (Az 5 n) X hf (saidN_at (hs.below h)) (saidN_len hn))
 have HSM:=Hd (fun (X:World) (h:Below w.heap.size w X)=>same_any (Gc n) Bq X (show (Fz n).At X from rest1_at (hs.below h)) (at_nil rfl) (show (Fz n).strokes.length<=_ from rest1_len hn))
 unfold FrD.val at *;obtain ⟨W,hW⟩:∃ W,(w.alloc (.cells #[.int .i64 f.rings,.int .i64 f.sec,.int .i64 f.wide] 112)).alloc (.cells n.arr 68)=W:=⟨_,rfl⟩;have hbW:Below w.heap.size w W:=by rw [<- hW];exact Ba.alloc (by simp) _
 have X:=(show Bk W w.heap.size 112 #[.int .i64 f.rings,.int .i64 f.sec,.int .i64 f.wide] by rw [<- hW];exact (Aa rfl).alloc _)
 have Y:=(show Bk W (w.heap.size+1) 68 n.arr by rw [<- hW];exact Aa (by simp))
 have hsz:W.heap.size=w.heap.size+2:=by rw [<- hW];simp
 have x0:=X.cell 0;have x1:=X.cell 1;have x2:=X.cell 2;have y4:=Y.cell 4;simp [Ab.arr] at x0 x1 x2 y4;have l1:=Ah n Y;have HXY:=Hd (Ai X Y);have HSZ:Hid (∀ w1:World,Below W.heap.size W w1->w.heap.size+2<=w1.heap.size):=fun w1 h=>by have:=h.size;omega
 have HW:=Hd hW;clear hW X Y hs hn hf hsz;go_enter Tryz.func72,Tryz.ntmps72;go_upto_region 1 with fail
 rw [HW.out];clear HW;go_wp2_with fail;refine (HSD.out _ hbW).mono ?_;rintro e w1 ⟨rfl,hb1⟩;have hq:=HSZ.out _ hb1;obtain ⟨q,hqq⟩:∃ q,w1.heap.size=q:=⟨_,rfl⟩;rw [hqq] at hq;have s1:=Be (ty:=68) (cs:=(Az n.kind n).arr) (Aa (w:=w1) (t:=68) (cs:=z68) hqq) (by kernel_rfl) rfl (Eb _)
 have hU:FmAt f n (Az n.kind n) q w ((w1.alloc (.cells z68 68)).setRow q (Az n.kind n).arr):=by
  have hb1w:=hbW.trans (hb1.mono hbW.size);have h2:=hqq;exact ⟨((HXY.out.1.keep hb1).alloc _).farRow (by omega) _,((HXY.out.2.keep hb1).alloc _).farRow (by omega) _,Bj (Aa hqq) _,Aq (hb1w.alloc hb1w.size _) (by omega) _⟩
 have HU:=Hd hU;clear hU l1 hb1 HSD HSZ;go_upto_region 2 with fail
 clear s1 x0 x1 x2 y4 hqq HXY hbW;generalize (w1.alloc _).setRow q _=U at *;have H1:=HU.out;clear HU;have y4:=H1.nt.cell 4;simp [Ab.arr] at y4;have he0:Bq.arr=z68:=rfl;rw [he0] at HSM
 by_cases k2:n.kind=2
 ·rw [k2] at H1 y4 ⊢;have HR:Hid (Fz n = { Az 2 n with rh:=0,rn:=0 }):=by unfold Fz;rw [if_pos k2];exact Hd rfl
  have HO:Hid (ok1 f n=(Dd f 2 n && (inB n.rh 1 8 && inB n.rn 1 400))):=by unfold ok1;rw [if_pos k2];exact Hd rfl
  have hlt:=H1.re.lt;have z16:=H1.re.fz 16;have z17:=H1.re.fz 17;have u16:=H1.re.cell 16;have u17:=H1.re.cell 17;simp [Ab.arr] at u16 u17;have H2:FmAt f n { Az 2 n with rh:=0 } q w (U.setCell ⟨q,16,none⟩ (.int .i64 0)):=H1.put hq 16 (.int .i64 0) rfl
  have H3:FmAt f n { Az 2 n with rh:=0,rn:=0 } q w ((U.setCell ⟨q,16,none⟩ (.int .i64 0)).setCell ⟨q,17,none⟩ (.int .i64 0)):=H2.put hq 17 (.int .i64 0) rfl
  rw [<- HR.out] at H3;have HH:=Hd H3;clear H1 H2 H3 k2 HR;go_upto_region 5 with fail
  clear hlt z16 z17 u16 u17 y4;generalize (U.setCell ⟨q,16,none⟩ (.int .i64 0)).setCell ⟨q,17,none⟩ (.int .i64 0)=U at *;have H1:=HH.out;clear HH;have y16:=H1.nt.cell 16;have y17:=H1.nt.cell 17;simp [Ab.arr] at y16 y17;cases q0:Dd f 2 n with
  | false =>
   have HF:Hid (ok1 f n=false):=by rw [HO.out,q0];exact Hd rfl
   clear HO q0;go_upto_region 11 with fail
   clear y16 y17;have hlt:=H1.re.lt;have z0:=H1.re.fz 0;have u0:=H1.re.cell 0;have z1:=H1.re.fz 1;have u1:=H1.re.cell 1;have z2:=H1.re.fz 2;have u2:=H1.re.cell 2;have z3:=H1.re.fz 3;have u3:=H1.re.cell 3;have z4:=H1.re.fz 4;have u4:=H1.re.cell 4;simp [Ab.arr] at u0 u1 u2 u3 u4;have HH:=Hd (H1.five hq);clear H1;go_upto_region 12 with fail
   clear hlt z0 z1 z2 z3 z4 u0 u1 u2 u3 u4;generalize (((((U.setCell ⟨q,0,none⟩ _).setCell ⟨q,1,none⟩ _).setCell ⟨q,2,none⟩ _).setCell ⟨q,3,none⟩ _).setCell ⟨q,4,none⟩ _)=V at *;have H:=HH.out;clear HH;have l3:=Ah n H.nt;have y2:=H.nt.cell 2;have y3:=H.nt.cell 3;simp [Ab.arr] at y2 y3;have HH:=Hd H;have HVV:Hid (Ar f n=(ok1 f n && ((inB n.house 1 8 && inB n.num 1 400) && (inB n.clock 1 1099511627776 && (inB n.day 0 99999 && Fy (Gc n) Bq))))):=Hd rfl;have hl1:=H.nt.lt;have hl2:=H.re.lt;clear H;have HQ:Hid (Ar f n=false):=by rw [HVV.out,HF.out];exact Hd rfl
   go_wp2_with fail;go_ret;exact ⟨Af HQ.out.symm,HH.out.be⟩
  | true =>
   have HF:Hid ((inB n.rh 1 8 && inB n.rn 1 400)=ok1 f n):=by rw [HO.out,q0];exact Hd rfl
   have HRN:=Hd (Gt n.rh n.rn U);rw [HF.out] at HRN;have HK:=Hd H1;clear HO q0 HF H1;go_wp2_with fail;refine HRN.out.mono ?_;rintro e U2 ⟨rfl,hb2⟩;have H1:=HK.out.keep hb2;clear HK hb2 HRN y16 y17;go_upto_region 11 with fail
   have hlt:=H1.re.lt;have z0:=H1.re.fz 0;have u0:=H1.re.cell 0;have z1:=H1.re.fz 1;have u1:=H1.re.cell 1;have z2:=H1.re.fz 2;have u2:=H1.re.cell 2;have z3:=H1.re.fz 3;have u3:=H1.re.cell 3;have z4:=H1.re.fz 4;have u4:=H1.re.cell 4;simp [Ab.arr] at u0 u1 u2 u3 u4;have HH:=Hd (H1.five hq);clear H1;go_upto_region 12 with fail
   clear hlt z0 z1 z2 z3 z4 u0 u1 u2 u3 u4;generalize (((((U2.setCell ⟨q,0,none⟩ _).setCell ⟨q,1,none⟩ _).setCell ⟨q,2,none⟩ _).setCell ⟨q,3,none⟩ _).setCell ⟨q,4,none⟩ _)=V at *;have H:=HH.out;clear HH;have l3:=Ah n H.nt;have y2:=H.nt.cell 2;have y3:=H.nt.cell 3;simp [Ab.arr] at y2 y3;have HH:=Hd H;have HVV:Hid (Ar f n=(ok1 f n && ((inB n.house 1 8 && inB n.num 1 400) && (inB n.clock 1 1099511627776 && (inB n.day 0 99999 && Fy (Gc n) Bq))))):=Hd rfl;have hl1:=H.nt.lt;have hl2:=H.re.lt;clear H;cases q1:ok1 f n with
   | false =>
    have HQ:Hid (Ar f n=false):=by rw [HVV.out,q1];exact Hd rfl
    go_wp2_with fail;go_ret;exact ⟨Af HQ.out.symm,HH.out.be⟩
   | true =>
    have HNM:=Hd (Dx n V);go_wp2_with fail;refine HNM.out.mono ?_;rintro e v1 ⟨rfl,hb2⟩;have K:=HH.out.keep hb2;clear HH hb2 y2 y3 l3 HNM hl1 hl2;have HRN:=Hd (Gt n.house n.num v1);have HK:=Hd K;clear K;cases q2:(inB n.house 1 8 && inB n.num 1 400) with
    | false =>
     have HQ:Hid (Ar f n=false):=by rw [HVV.out,q1,q2];exact Hd rfl
     rw [q2] at HRN;clear q1 q2;go_wp2_with fail;refine HRN.out.mono ?_;rintro e v2 ⟨rfl,hb3⟩;go_wp2_with fail;go_ret;exact ⟨Af HQ.out.symm,HK.out.be.trans (hb3.mono HK.out.be.size)⟩
    | true =>
     have HVW:Hid (Ar f n=(inB n.clock 1 1099511627776 && (inB n.day 0 99999 && Fy (Gc n) Bq))):=by rw [HVV.out,q1,q2];exact Hd rfl
     rw [q2] at HRN;clear q1 q2 HVV;go_wp2_with fail;refine HRN.out.mono ?_;rintro e v2 ⟨rfl,hb3⟩;have K2:=HK.out.keep hb3;clear HK hb3 HRN;have y2:=K2.nt.cell 2;have y3:=K2.nt.cell 3;simp [Ab.arr] at y2 y3;have l4:=Ah (Gc n) K2.re;have HSS:=Hd (HSM.out v2 K2.be);have HK:=Hd K2;clear K2;cases q3:inB n.clock 1 1099511627776 with
     | false =>
      have HQ:Hid (Ar f n=false):=by rw [HVW.out,q3];exact Hd rfl
      go_wp2_with (go_at_call 36;refine (Bm _ _ _ _).mono ?_;rintro e v3 ⟨rfl,rfl⟩;rw [q3]);go_ret;exact ⟨Af HQ.out.symm,HK.out.be⟩
     | true =>
      cases q4:inB n.day 0 99999 with
      | false =>
       have HQ:Hid (Ar f n=false):=by rw [HVW.out,q3,q4];exact Hd rfl
       go_wp2_with (go_at_call 36;refine (Bm _ _ _ _).mono ?_;rintro e v3 ⟨rfl,rfl⟩;first | rw [q3] | rw [q4])
       go_ret;exact ⟨Af HQ.out.symm,HK.out.be⟩
      | true =>
       have HQ:Hid (Ar f n=Fy (Gc n) Bq):=by rw [HVW.out,q3,q4];exact Hd rfl
       go_wp2_with (first | (go_at_call 36;refine (Bm _ _ _ _).mono ?_;rintro e v3 ⟨rfl,rfl⟩;first | rw [q3] | rw [q4]) | (go_at_call 117;refine HSS.out.mono ?_;rintro e v4 ⟨rfl,hb5⟩))
       go_ret;exact ⟨Af HQ.out.symm,HK.out.be.trans (hb5.mono HK.out.be.size)⟩
 ·by_cases k5:n.kind=5
  ·rw [k5] at H1 y4 ⊢;have HR:Hid (Fz n = { Az n.fix (Az 5 n) with fix:=0 }):=by unfold Fz;rw [if_neg k2,if_pos k5];exact Hd rfl
   have HO:Hid (ok1 f n=(Dd f 5 n && (Dd f n.fix (Az 5 n) && inB n.fix 1 4))):=by unfold ok1;rw [if_neg k2,if_pos k5];exact Hd rfl
   have l5:=Ah (Az 5 n) H1.re;have f0:=H1.fr.cell 0;have f1:=H1.fr.cell 1;have f2:=H1.fr.cell 2;have y18:=H1.nt.cell 18;simp [Ab.arr] at f0 f1 f2 y18;have HS:=Hd (HSD2.out U H1.be n.fix);have HK:=Hd H1;clear H1 k2 k5 HSD2;go_wp2_with fail;refine HS.out.mono ?_;rintro e w3 ⟨rfl,hb3⟩;have H2:=HK.out.keep hb3;clear HK hb3 HS l5 f0 f1 f2 y18 y4;obtain ⟨p,hp⟩:∃ p,w3.heap.size=p:=⟨_,rfl⟩;have hqp:q<p:=by have:=H2.re.lt;omega
   have s1:=Be (ty:=68) (cs:=(Az n.fix (Az 5 n)).arr) (Aa (w:=w3) (t:=68) (cs:=z68) hp) (by kernel_rfl) rfl (Eb _)
   have hP:Bk ((w3.alloc (.cells z68 68)).setRow p (Az n.fix (Az 5 n)).arr) p 68 (Az n.fix (Az 5 n)).arr:=Bj (Aa hp) _;have H3:FmAt f n (Az 5 n) q w ((w3.alloc (.cells z68 68)).setRow p (Az n.fix (Az 5 n)).arr) :=
    ⟨(H2.fr.alloc _).farRow (by omega) _,(H2.nt.alloc _).farRow (by omega) _,(H2.re.alloc _).farRow (by omega) _,Aq (H2.be.alloc H2.be.size _) (by omega) _⟩
   have HK:=Hd (Ai H3 hP);clear H2 H3 hP;go_upto_region 8 with fail
   clear s1 hp;generalize (w3.alloc _).setRow p _=U3 at *;obtain ⟨H3,hP⟩:=HK.out;clear HK;have l6:=Ah _ hP;have s2:=Be (ty:=68) (cs:=(Az n.fix (Az 5 n)).arr) H3.re (by kernel_rfl) rfl (Eb _)
   have H4:FmAt f n (Az n.fix (Az 5 n)) q w (U3.setRow q (Az n.fix (Az 5 n)).arr) :=
    ⟨H3.fr.farRow (by omega) _,H3.nt.farRow (by omega) _,Bj H3.re _,Aq H3.be (by omega) _⟩
   have HK:=Hd H4;clear H3 hP H4;go_upto_region 9 with fail
   clear l6 s2;generalize U3.setRow q _=U4 at *;have H1:=HK.out;clear HK;have y18:=H1.nt.cell 18;have hlt:=H1.re.lt;have z18:=H1.re.fz 18;have u18:=H1.re.cell 18;simp [Ab.arr] at y18 u18;have H2:FmAt f n { Az n.fix (Az 5 n) with fix:=0 } q w (U4.setCell ⟨q,18,none⟩ (.int .i64 0)):=H1.put hq 18 (.int .i64 0) rfl
   rw [<- HR.out] at H2;have HK:=Hd H2;clear H1 H2 HR hqp;cases q0:Dd f 5 n with
   | false =>
    have HF:Hid (ok1 f n=false):=by rw [HO.out,q0];exact Hd rfl
    clear HO q0;go_upto_region 11 with fail
    clear y18 hlt z18 u18;generalize U4.setCell _ _=U at *;have H1:=HK.out;clear HK;have hlt:=H1.re.lt;have z0:=H1.re.fz 0;have u0:=H1.re.cell 0;have z1:=H1.re.fz 1;have u1:=H1.re.cell 1;have z2:=H1.re.fz 2;have u2:=H1.re.cell 2;have z3:=H1.re.fz 3;have u3:=H1.re.cell 3;have z4:=H1.re.fz 4;have u4:=H1.re.cell 4;simp [Ab.arr] at u0 u1 u2 u3 u4;have HH:=Hd (H1.five hq);clear H1;go_upto_region 12 with fail
    clear hlt z0 z1 z2 z3 z4 u0 u1 u2 u3 u4;generalize (((((U.setCell ⟨q,0,none⟩ _).setCell ⟨q,1,none⟩ _).setCell ⟨q,2,none⟩ _).setCell ⟨q,3,none⟩ _).setCell ⟨q,4,none⟩ _)=V at *;have H:=HH.out;clear HH;have l3:=Ah n H.nt;have y2:=H.nt.cell 2;have y3:=H.nt.cell 3;simp [Ab.arr] at y2 y3;have HH:=Hd H;have HVV:Hid (Ar f n=(ok1 f n && ((inB n.house 1 8 && inB n.num 1 400) && (inB n.clock 1 1099511627776 && (inB n.day 0 99999 && Fy (Gc n) Bq))))):=Hd rfl;have hl1:=H.nt.lt;have hl2:=H.re.lt;clear H;have HQ:Hid (Ar f n=false):=by rw [HVV.out,HF.out];exact Hd rfl
    go_wp2_with fail;go_ret;exact ⟨Af HQ.out.symm,HH.out.be⟩
   | true =>
    cases q9:Dd f n.fix (Az 5 n) with
    | false =>
     have HF:Hid (ok1 f n=false):=by rw [HO.out,q0,q9];exact Hd rfl
     clear HO q0 q9;go_upto_region 11 with fail
     clear y18 hlt z18 u18;generalize U4.setCell _ _=U at *;have H1:=HK.out;clear HK;have hlt:=H1.re.lt;have z0:=H1.re.fz 0;have u0:=H1.re.cell 0;have z1:=H1.re.fz 1;have u1:=H1.re.cell 1;have z2:=H1.re.fz 2;have u2:=H1.re.cell 2;have z3:=H1.re.fz 3;have u3:=H1.re.cell 3;have z4:=H1.re.fz 4;have u4:=H1.re.cell 4;simp [Ab.arr] at u0 u1 u2 u3 u4;have HH:=Hd (H1.five hq);clear H1;go_upto_region 12 with fail
     clear hlt z0 z1 z2 z3 z4 u0 u1 u2 u3 u4;generalize (((((U.setCell ⟨q,0,none⟩ _).setCell ⟨q,1,none⟩ _).setCell ⟨q,2,none⟩ _).setCell ⟨q,3,none⟩ _).setCell ⟨q,4,none⟩ _)=V at *;have H:=HH.out;clear HH;have l3:=Ah n H.nt;have y2:=H.nt.cell 2;have y3:=H.nt.cell 3;simp [Ab.arr] at y2 y3;have HH:=Hd H;have HVV:Hid (Ar f n=(ok1 f n && ((inB n.house 1 8 && inB n.num 1 400) && (inB n.clock 1 1099511627776 && (inB n.day 0 99999 && Fy (Gc n) Bq))))):=Hd rfl;have hl1:=H.nt.lt;have hl2:=H.re.lt;clear H;have HQ:Hid (Ar f n=false):=by rw [HVV.out,HF.out];exact Hd rfl
     go_wp2_with fail;go_ret;exact ⟨Af HQ.out.symm,HH.out.be⟩
    | true =>
     have HF:Hid (inB n.fix 1 4=ok1 f n):=by rw [HO.out,q0,q9];exact Hd rfl
     clear HO q0 q9;go_upto_region 11 with (go_at_call 36;refine (Bm _ _ _ _).mono ?_;rintro e v3 ⟨rfl,rfl⟩;rw [HF.out])
     clear y18 hlt z18 u18 HF;generalize U4.setCell _ _=U at *;have H1:=HK.out;clear HK;have hlt:=H1.re.lt;have z0:=H1.re.fz 0;have u0:=H1.re.cell 0;have z1:=H1.re.fz 1;have u1:=H1.re.cell 1;have z2:=H1.re.fz 2;have u2:=H1.re.cell 2;have z3:=H1.re.fz 3;have u3:=H1.re.cell 3;have z4:=H1.re.fz 4;have u4:=H1.re.cell 4;simp [Ab.arr] at u0 u1 u2 u3 u4;have HH:=Hd (H1.five hq);clear H1;go_upto_region 12 with fail
     clear hlt z0 z1 z2 z3 z4 u0 u1 u2 u3 u4;generalize (((((U.setCell ⟨q,0,none⟩ _).setCell ⟨q,1,none⟩ _).setCell ⟨q,2,none⟩ _).setCell ⟨q,3,none⟩ _).setCell ⟨q,4,none⟩ _)=V at *;have H:=HH.out;clear HH;have l3:=Ah n H.nt;have y2:=H.nt.cell 2;have y3:=H.nt.cell 3;simp [Ab.arr] at y2 y3;have HH:=Hd H;have HVV:Hid (Ar f n=(ok1 f n && ((inB n.house 1 8 && inB n.num 1 400) && (inB n.clock 1 1099511627776 && (inB n.day 0 99999 && Fy (Gc n) Bq))))):=Hd rfl;have hl1:=H.nt.lt;have hl2:=H.re.lt;clear H;cases q1:ok1 f n with
     | false =>
      have HQ:Hid (Ar f n=false):=by rw [HVV.out,q1];exact Hd rfl
      go_wp2_with fail;go_ret;exact ⟨Af HQ.out.symm,HH.out.be⟩
     | true =>
      have HNM:=Hd (Dx n V);go_wp2_with fail;refine HNM.out.mono ?_;rintro e v1 ⟨rfl,hb2⟩;have K:=HH.out.keep hb2;clear HH hb2 y2 y3 l3 HNM hl1 hl2;have HRN:=Hd (Gt n.house n.num v1);have HK:=Hd K;clear K;cases q2:(inB n.house 1 8 && inB n.num 1 400) with
      | false =>
       have HQ:Hid (Ar f n=false):=by rw [HVV.out,q1,q2];exact Hd rfl
       rw [q2] at HRN;clear q1 q2;go_wp2_with fail;refine HRN.out.mono ?_;rintro e v2 ⟨rfl,hb3⟩;go_wp2_with fail;go_ret;exact ⟨Af HQ.out.symm,HK.out.be.trans (hb3.mono HK.out.be.size)⟩
      | true =>
       have HVW:Hid (Ar f n=(inB n.clock 1 1099511627776 && (inB n.day 0 99999 && Fy (Gc n) Bq))):=by rw [HVV.out,q1,q2];exact Hd rfl
       rw [q2] at HRN;clear q1 q2 HVV;go_wp2_with fail;refine HRN.out.mono ?_;rintro e v2 ⟨rfl,hb3⟩;have K2:=HK.out.keep hb3;clear HK hb3 HRN;have y2:=K2.nt.cell 2;have y3:=K2.nt.cell 3;simp [Ab.arr] at y2 y3;have l4:=Ah (Gc n) K2.re;have HSS:=Hd (HSM.out v2 K2.be);have HK:=Hd K2;clear K2;cases q3:inB n.clock 1 1099511627776 with
       | false =>
        have HQ:Hid (Ar f n=false):=by rw [HVW.out,q3];exact Hd rfl
        go_wp2_with (go_at_call 36;refine (Bm _ _ _ _).mono ?_;rintro e v3 ⟨rfl,rfl⟩;rw [q3]);go_ret;exact ⟨Af HQ.out.symm,HK.out.be⟩
       | true =>
        cases q4:inB n.day 0 99999 with
        | false =>
         have HQ:Hid (Ar f n=false):=by rw [HVW.out,q3,q4];exact Hd rfl
         go_wp2_with (go_at_call 36;refine (Bm _ _ _ _).mono ?_;rintro e v3 ⟨rfl,rfl⟩;first | rw [q3] | rw [q4])
         go_ret;exact ⟨Af HQ.out.symm,HK.out.be⟩
        | true =>
         have HQ:Hid (Ar f n=Fy (Gc n) Bq):=by rw [HVW.out,q3,q4];exact Hd rfl
         go_wp2_with (first | (go_at_call 36;refine (Bm _ _ _ _).mono ?_;rintro e v3 ⟨rfl,rfl⟩;first | rw [q3] | rw [q4]) | (go_at_call 117;refine HSS.out.mono ?_;rintro e v4 ⟨rfl,hb5⟩))
         go_ret;exact ⟨Af HQ.out.symm,HK.out.be.trans (hb5.mono HK.out.be.size)⟩
  ·have k2b:(n.kind == 2)=false:=by simpa using k2
   have k5b:(n.kind == 5)=false:=by simpa using k5
   have HR:Hid (Fz n=Az n.kind n):=by unfold Fz;rw [if_neg k2,if_neg k5];exact Hd rfl
   have HO:Hid (Dd f n.kind n=ok1 f n):=by unfold ok1;rw [if_neg k2,if_neg k5];exact Hd rfl
   rw [<- HR.out] at H1;rw [HO.out];clear HR HO k2 k5;go_upto_region 11 with fail
   clear k2b k5b y4;have hlt:=H1.re.lt;have z0:=H1.re.fz 0;have u0:=H1.re.cell 0;have z1:=H1.re.fz 1;have u1:=H1.re.cell 1;have z2:=H1.re.fz 2;have u2:=H1.re.cell 2;have z3:=H1.re.fz 3;have u3:=H1.re.cell 3;have z4:=H1.re.fz 4;have u4:=H1.re.cell 4;simp [Ab.arr] at u0 u1 u2 u3 u4;have HH:=Hd (H1.five hq);clear H1;go_upto_region 12 with fail
   clear hlt z0 z1 z2 z3 z4 u0 u1 u2 u3 u4;generalize (((((U.setCell ⟨q,0,none⟩ _).setCell ⟨q,1,none⟩ _).setCell ⟨q,2,none⟩ _).setCell ⟨q,3,none⟩ _).setCell ⟨q,4,none⟩ _)=V at *;have H:=HH.out;clear HH;have l3:=Ah n H.nt;have y2:=H.nt.cell 2;have y3:=H.nt.cell 3;simp [Ab.arr] at y2 y3;have HH:=Hd H;have HVV:Hid (Ar f n=(ok1 f n && ((inB n.house 1 8 && inB n.num 1 400) && (inB n.clock 1 1099511627776 && (inB n.day 0 99999 && Fy (Gc n) Bq))))):=Hd rfl;have hl1:=H.nt.lt;have hl2:=H.re.lt;clear H;cases q1:ok1 f n with
   | false =>
    have HQ:Hid (Ar f n=false):=by rw [HVV.out,q1];exact Hd rfl
    go_wp2_with fail;go_ret;exact ⟨Af HQ.out.symm,HH.out.be⟩
   | true =>
    have HNM:=Hd (Dx n V);go_wp2_with fail;refine HNM.out.mono ?_;rintro e v1 ⟨rfl,hb2⟩;have K:=HH.out.keep hb2;clear HH hb2 y2 y3 l3 HNM hl1 hl2;have HRN:=Hd (Gt n.house n.num v1);have HK:=Hd K;clear K;cases q2:(inB n.house 1 8 && inB n.num 1 400) with
    | false =>
     have HQ:Hid (Ar f n=false):=by rw [HVV.out,q1,q2];exact Hd rfl
     rw [q2] at HRN;clear q1 q2;go_wp2_with fail;refine HRN.out.mono ?_;rintro e v2 ⟨rfl,hb3⟩;go_wp2_with fail;go_ret;exact ⟨Af HQ.out.symm,HK.out.be.trans (hb3.mono HK.out.be.size)⟩
    | true =>
     have HVW:Hid (Ar f n=(inB n.clock 1 1099511627776 && (inB n.day 0 99999 && Fy (Gc n) Bq))):=by rw [HVV.out,q1,q2];exact Hd rfl
     rw [q2] at HRN;clear q1 q2 HVV;go_wp2_with fail;refine HRN.out.mono ?_;rintro e v2 ⟨rfl,hb3⟩;have K2:=HK.out.keep hb3;clear HK hb3 HRN;have y2:=K2.nt.cell 2;have y3:=K2.nt.cell 3;simp [Ab.arr] at y2 y3;have l4:=Ah (Gc n) K2.re;have HSS:=Hd (HSM.out v2 K2.be);have HK:=Hd K2;clear K2;cases q3:inB n.clock 1 1099511627776 with
     | false =>
      have HQ:Hid (Ar f n=false):=by rw [HVW.out,q3];exact Hd rfl
      go_wp2_with (go_at_call 36;refine (Bm _ _ _ _).mono ?_;rintro e v3 ⟨rfl,rfl⟩;rw [q3]);go_ret;exact ⟨Af HQ.out.symm,HK.out.be⟩
     | true =>
      cases q4:inB n.day 0 99999 with
      | false =>
       have HQ:Hid (Ar f n=false):=by rw [HVW.out,q3,q4];exact Hd rfl
       go_wp2_with (go_at_call 36;refine (Bm _ _ _ _).mono ?_;rintro e v3 ⟨rfl,rfl⟩;first | rw [q3] | rw [q4])
       go_ret;exact ⟨Af HQ.out.symm,HK.out.be⟩
      | true =>
       have HQ:Hid (Ar f n=Fy (Gc n) Bq):=by rw [HVW.out,q3,q4];exact Hd rfl
       go_wp2_with (first | (go_at_call 36;refine (Bm _ _ _ _).mono ?_;rintro e v3 ⟨rfl,rfl⟩;first | rw [q3] | rw [q4]) | (go_at_call 117;refine HSS.out.mono ?_;rintro e v4 ⟨rfl,hb5⟩))
       go_ret;exact ⟨Af HQ.out.symm,HK.out.be.trans (hb5.mono HK.out.be.size)⟩
end Go.Proofs.YteihcodicfoiaaaGreat
