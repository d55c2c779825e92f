/-
  What is proved: the contract of truth.open.
-/
import Derived.Test.YteihcodicfoiaaaGreat16Mf
import Derived.Test.YteihcodicfoiaaaGreat0Mf
import Derived.Deep.DeepCutAuto
namespace Go.Proofs.YteihcodicfoiaaaGreat
set_option maxRecDepth 100000
set_option maxHeartbeats 8000000
open Go Go.RowKit
attribute [local go_sem] Fac.val tpairV
theorem row_two (w:World) (a b:Int) (t:TypeId) (n:Nat) (h:w.heap.size=n):Ad (w.alloc (.cells #[.int .i64 a,.int .i64 b] t)) (some ⟨n,0,none⟩) (Ac [a,b]):=by
 subst h;intro _;refine ⟨_,_,rfl,by simp,fun j u hu=>?_⟩
 rw [(Aa (t:=t) (cs:=#[.int .i64 a,.int .i64 b]) (w:=w) rfl).cell,Nat.zero_add]
 simpa [Ac] using hu
def Stn.ok0 (s:Stn):Bool:=s.f.ok && s.heights.length == s.f.kinds.length && flatB 100000 s.heights && (s.compass.length:Int) == s.f.sec && decide (s.pockets.length<=8) && inB s.tol 0 1000000000000
def okPt (p:Int×Int):Bool:=inB p.1 (-1000) 1000 && inB p.2 (-1000) 1000
def okPk (p:(Int×Int)×Int):Bool:=inB p.1.1 (-1000000) 1000000 && inB p.1.2 (-1000000) 1000000 && inB p.2 0 255
def momX (s:Stn):Nat->Int
 | 0=>0
 | n+1=>momX s n+(s.compass.getD (n % s.f.sec.toNat) (0,0)).1*(massV s n*(s.f.eye+(n:Int) / s.f.sec+1))
def momY (s:Stn):Nat->Int
 | 0=>0
 | n+1=>momY s n+(s.compass.getD (n % s.f.sec.toNat) (0,0)).2*(massV s n*(s.f.eye+(n:Int) / s.f.sec+1))
theorem arm_bound {s:Stn} (h:s.ok=true) {i:Nat} (hi:i<s.f.kinds.length):-316000000<=massV s i*(s.f.eye+(i:Int) / s.f.sec+1)/\massV s i*(s.f.eye+(i:Int) / s.f.sec+1)<=316000000:=by
 obtain ⟨k1,k2,k3,k4,k5,k6,k7,k8⟩:=fac_ok (stn_ok h).1;obtain ⟨r1,r2,_⟩:=cell_ring h hi;obtain ⟨m1,m2⟩:=mass_bound h hi;have:=tmul_bound (y:=s.f.eye+(i:Int) / s.f.sec+1) (x:=massV s i) (a:=40) (b:=7900000) (by omega) (by omega) (by omega) (by omega)
 rw [Int.mul_comm (massV s i)];omega
theorem sec_idx {s:Stn} (h:s.ok=true) (i:Nat):i % s.f.sec.toNat<s.compass.length/\(i:Int) % s.f.sec=((i % s.f.sec.toNat:Nat):Int):=by
 obtain ⟨h1,_,_,h4,_⟩:=stn_ok h;obtain ⟨k1,k2,k3,k4,k5,k6,k7,k8⟩:=fac_ok h1;obtain ⟨n,hn⟩:=Int.eq_ofNat_of_zero_le (show 0<=s.f.sec by omega)
 rw [hn] at h4 k5 ⊢;have:=Nat.mod_lt i (show n > 0 by omega)
 simp only [Int.toNat_natCast];refine ⟨by omega,by simp⟩
theorem dir_bound {s:Stn} (h:s.ok=true) (i:Nat) {t:Int} (ht:-316000000<=t/\t<=316000000) :
  (-316000000000<=(s.compass.getD (i % s.f.sec.toNat) (0,0)).1*t/\(s.compass.getD (i % s.f.sec.toNat) (0,0)).1*t<=316000000000)/\ -316000000000<=(s.compass.getD (i % s.f.sec.toNat) (0,0)).2*t/\(s.compass.getD (i % s.f.sec.toNat) (0,0)).2*t<=316000000000:=by
 obtain ⟨_,_,_,_,_,_,_,h8,_⟩:=stn_ok h;obtain ⟨c1,c2⟩:=h8 _ (Cg (0,0) (sec_idx h i).1);generalize s.compass.getD (i % s.f.sec.toNat) (0,0)=p at *;have key:∀ x:Int,-1000<=x/\x<=1000 -> -316000000000<=x*t/\x*t<=316000000000:=fun x hx=>by
  rcases Int.le_total 0 x with h0 | h0
  ·have:=tmul_bound (y:=x) (x:=t) (a:=1000) (b:=316000000) h0 hx.2 (by omega) ht.2
   omega
  ·have:=tmul_bound (y:=-x) (x:=t) (a:=1000) (b:=316000000) (by omega) (by omega) (by omega) ht.2
   rw [Int.neg_mul] at this;omega
 exact ⟨key _ c1,key _ c2⟩
theorem mom_bound {s:Stn} (h:s.ok=true):∀ i:Nat,i<=s.f.kinds.length->(-((i:Int)*316000000000)<=momX s i/\momX s i<=(i:Int)*316000000000)/\ -((i:Int)*316000000000)<=momY s i/\momY s i<=(i:Int)*316000000000
 | 0,_=>by simp [momX,momY]
 | i+1,hi=>by
  have ih:=mom_bound h i (by omega)
  have hd:=dir_bound h i (arm_bound h (show i<s.f.kinds.length by omega))
  simp only [momX,momY];generalize (s.compass.getD (i % s.f.sec.toNat) (0,0)).1 * (massV s i * (s.f.eye + (i:Int) / s.f.sec + 1))=a at *;generalize (s.compass.getD (i % s.f.sec.toNat) (0,0)).2 * (massV s i * (s.f.eye + (i:Int) / s.f.sec + 1))=b at *;have:((i+1:Nat):Int)*316000000000=(i:Int)*316000000000+316000000000:=by omega
  omega
theorem all_take {α:Type} (p:α->Bool) (d:α) (l:List α) (k:Nat) (hk:k<l.length):(l.take (k+1)).all p=((l.take k).all p && p (l.getD k d)):=by
 rw [List.take_add_one,List.all_append,List.getD_eq_getElem?_getD];simp [List.getElem?_eq_getElem hk]
theorem ok_split (s:Stn):s.ok=(s.ok0 && s.compass.all okPt && s.pockets.all okPk):=by
 rfl
def OpenPost (s:Stn) (z:Loc) (w:World) (e:Ending) (w':World):Prop :=
 Below w.heap.size w w'/\((s.ok=false/\e=.returned (.tuple #[.pointer none,.int .i64 60]))\/
  (s.ok=true/\∃ g,e=.returned (.tuple #[.pointer (some ⟨g,0,none⟩),.int .i64 0])/\w.heap.size<=g/\Bk w' g 274 (s.cells z ++ #[.int .i64 (momX s s.f.kinds.length),.int .i64 (momY s s.f.kinds.length)])))
theorem topen_any (s:Stn) (z:Loc) (w:World) (hs:StAt w s z):Calls Tryz.prog 110 #[s.val z] w (OpenPost s z w):=by
 have n1:=hs.n1;have n2:=hs.n2;have n3:=hs.n3;have n4:=hs.n4;unfold Stn.val Stn.cells;go_enter Tryz.func110,Tryz.ntmps110;go_upto_region 2 with fail
 obtain ⟨X,hs1,hB⟩:=box_stn hs;generalize hV:w.alloc (.cells _ 163)=V at *;have hVz:V.heap.size=w.heap.size+1:=by rw [<- hV];simp
 have HS:=Hd hs;clear hV hs;have F:Bk (V.alloc (.cells #[.int .i64 s.f.eye,.int .i64 s.f.rings,.int .i64 s.f.sec,.slice z.a1 s.f.kinds.length z.c1] 24)) (w.heap.size+1) 24 #[.int .i64 s.f.eye,.int .i64 s.f.rings,.int .i64 s.f.sec,.slice z.a1 s.f.kinds.length z.c1]:=Aa hVz;replace X:=X.alloc (.cells #[.int .i64 s.f.eye,.int .i64 s.f.rings,.int .i64 s.f.sec,.slice z.a1 s.f.kinds.length z.c1] 24);replace hs1:=hs1.alloc (.cells #[.int .i64 s.f.eye,.int .i64 s.f.rings,.int .i64 s.f.sec,.slice z.a1 s.f.kinds.length z.c1] 24);replace hB:=hB.alloc (by omega) (.cells #[.int .i64 s.f.eye,.int .i64 s.f.rings,.int .i64 s.f.sec,.slice z.a1 s.f.kinds.length z.c1] 24)
 generalize V.alloc (.cells _ 24)=U at *;clear hVz;go_cut [5] from 14 to 53 (fun cc wx=>cc=.bool s.ok0/\Below U.heap.size U wx)
 case first =>
  have HV:Hid (∀ W,StAt W s z->Calls Tryz.prog 120 #[.agg #[.int .i64 s.f.eye,.int .i64 s.f.rings,.int .i64 s.f.sec,.slice z.a1 s.f.kinds.length z.c1]] W fun e w'=>e=.returned (.bool s.f.ok)/\Below W.heap.size W w'):=fun W h=>Jh s.f z.a1 z.c1 W h.kinds n1
  have HFl:Hid (∀ W,StAt W s z->Calls Tryz.prog 157 #[.int .i64 100000,.slice z.a2 s.heights.length z.c2] W fun e w'=>e=.returned (.bool (flatB 100000 s.heights))/\Below W.heap.size W w'):=fun W h=>flat_any z.a2 z.c2 100000 s.heights W h.heights n2 (by omega) (by omega)
  obtain ⟨x0,x1,x2,x3,x4,x5,x6,x7⟩:=Gq X;have f0:=F.cell 0;have f1:=F.cell 1;have f2:=F.cell 2;have f3:=F.cell 3;simp at f0 f1 f2 f3;go_wp2_with fail;refine (HV.out _ hs1).mono ?_;rintro e w1 ⟨rfl,hb1⟩;clear x0 x1 x2 x3 x4 x5 x6 x7 f0 f1 f2 f3;replace X:=X.keep hb1;replace F:=F.keep hb1;replace hs1:=hs1.below hb1;obtain ⟨x0,x1,x2,x3,x4,x5,x6,x7⟩:=Gq X;have f0:=F.cell 0;have f1:=F.cell 1;have f2:=F.cell 2;have f3:=F.cell 3;simp at f0 f1 f2 f3
  by_cases h1:s.f.ok=true
  ·rw [h1]
   by_cases h2:s.heights.length=s.f.kinds.length
   ·have h2b:((s.heights.length:Int) == (s.f.kinds.length:Int))=true:=by simp;omega
    have H2:=Hd h2;clear h2;go_wp2_with fail;refine (HFl.out _ hs1).mono ?_;rintro e w2 ⟨rfl,hb2⟩;have hb12:=hb1.trans (hb2.mono hb1.size);clear x0 x1 x2 x3 x4 x5 x6 x7 f0 f1 f2 f3;replace X:=X.keep hb2;replace F:=F.keep hb2;obtain ⟨x0,x1,x2,x3,x4,x5,x6,x7⟩:=Gq X;have f0:=F.cell 0;have f1:=F.cell 1;have f2:=F.cell 2;have f3:=F.cell 3;simp at f0 f1 f2 f3;clear hb1 hb2 h2b
    by_cases h3:flatB 100000 s.heights=true
    ·rw [h3]
     by_cases h4:(s.compass.length:Int)=s.f.sec
     ·have h4b:((s.compass.length:Int) == s.f.sec)=true:=by simpa using h4
      have H4:=Hd h4;clear h4
      by_cases h5:s.pockets.length<=8
      ·have h5I:(s.pockets.length:Int)<=8:=by omega
       by_cases h6:0<=s.tol
       ·by_cases h7:s.tol<=1000000000000
        ·have e:=Hd (show s.ok0=true by simp [Stn.ok0,h1,H2.out,h3,H4.out,h5,inB,h6,h7])
         go_wp2_with fail;go_meet
         case rel=>exact ⟨by first | (rw [e.out];done) | (rw [e.out];simp;omega),hb12⟩
        ·have h7I:1000000000000<s.tol:=by omega
         have e:=Hd (show s.ok0=false by simp [Stn.ok0,inB]<;>omega)
         go_wp2_with fail;go_meet
         case rel=>exact ⟨by first | (rw [e.out];done) | (rw [e.out];simp;omega),hb12⟩
       ·have h6I:s.tol<0:=by omega
        have e:=Hd (show s.ok0=false by simp [Stn.ok0,inB]<;>omega)
        go_wp2_with fail;go_meet
        case rel=>exact ⟨by first | (rw [e.out];done) | (rw [e.out];simp;omega),hb12⟩
      ·have h5I:8<(s.pockets.length:Int):=by omega
       have e:=Hd (show s.ok0=false by simp [Stn.ok0,h5])
       go_wp2_with fail;go_meet
       case rel=>exact ⟨by first | (rw [e.out];done) | (rw [e.out];simp;omega),hb12⟩
     ·have h4b:((s.compass.length:Int) == s.f.sec)=false:=by simpa using h4
      have e:=Hd (show s.ok0=false by simp [Stn.ok0,h4])
      go_wp2_with fail;go_meet
      case rel=>exact ⟨by first | (rw [e.out];done) | (rw [e.out];simp;omega),hb12⟩
    ·have h3b:flatB 100000 s.heights=false:=by simpa using h3
     rw [h3b];have e:=Hd (show s.ok0=false by simp [Stn.ok0,h3b])
     go_wp2_with fail;go_meet
     case rel=>exact ⟨by first | (rw [e.out];done) | (rw [e.out];simp;omega),hb12⟩
   ·have h2b:((s.heights.length:Int) == (s.f.kinds.length:Int))=false:=by simp;omega
    have e:=Hd (show s.ok0=false by simp [Stn.ok0,h2])
    go_wp2_with fail;go_meet
    case rel=>exact ⟨by first | (rw [e.out];done) | (rw [e.out];simp;omega),hb1⟩
  ·have h1b:s.f.ok=false:=by simpa using h1
   rw [h1b];have e:=Hd (show s.ok0=false by simp [Stn.ok0,h1b])
   go_wp2_with fail;go_meet
   case rel=>exact ⟨by first | (rw [e.out];done) | (rw [e.out];simp;omega),hb1⟩
 case rest =>
 obtain ⟨rfl,hb1⟩:=hcut;replace X:=X.keep hb1;replace F:=F.keep hb1;replace hs1:=hs1.below hb1;replace hB:=hB.trans (hb1.mono hB.size);clear hb1;obtain ⟨x0,x1,x2,x3,x4,x5,x6,x7⟩:=Gq X;have f3:=F.cell 3;simp at f3;go_wp2_with fail;obtain ⟨wo,hwo⟩:∃ wo:World,wo=wc:=⟨_,rfl⟩;subst hwo;go_loopw [5,57] (fun o i wr=>∃ k:Nat,k<=s.compass.length/\i=.int .i64 k/\o=.bool (s.ok0 && (s.compass.take k).all okPt)/\Bk wr w.heap.size 163 (s.cells z)/\Bk wr (w.heap.size+1) 24 #[.int .i64 s.f.eye,.int .i64 s.f.rings,.int .i64 s.f.sec,.slice z.a1 s.f.kinds.length z.c1]/\StAt wr s z/\Below w.heap.size w wr) (fun _ i _=>s.compass.length - (intOf i).toNat)
 case atStart=>exact ⟨0,Nat.zero_le _,rfl,by simp,X,F,hs1,hB⟩
 case round =>
  clear X F hs1 hB x0 x1 x2 x3 x4 x5 x6 x7 f3;obtain ⟨k,hk,rfl,rfl,X,F,hs1,hB⟩:=hrel
  by_cases hlt:k<s.compass.length
  ·have hkI:(k:Int)<s.compass.length:=by omega
   have hst:Hid (∀ b,(s.ok0 && (s.compass.take k).all okPt)=b->(s.ok0 && (s.compass.take (k+1)).all okPt)=(b && okPt (s.compass.getD k (0,0)))):=by
    rintro b rfl;rw [all_take okPt (0,0) _ _ hlt,Bool.and_assoc]
   have HT:=hst.out _ rfl;have HT:=Hd HT;clear hst;obtain ⟨b,off,hA,hb,hc⟩:=hs1.compass.pt (by omega)
   obtain ⟨c0,c1⟩:=hc k hlt;clear hc;generalize s.compass.getD k (0,0)=p at *;obtain ⟨px,py⟩:=p;simp only at c0 c1;rw [hA];clear hA;have hz:=hB.size;cases hb0:(s.ok0 && (s.compass.take k).all okPt)
   ·rw [hb0] at HT;clear hb0;go_wp2_with fail;go_roundw
    case rel=>exact ⟨k+1,by omega,by go_num,by rw [HT.out];rfl,X.alloc _,F.alloc _,hs1.alloc _,hB.alloc hz _⟩
    case measure=>simp [intOf];omega
   ·rw [hb0] at HT;clear hb0;go_wp2_with fail;refine (flat_any _ _ 1000 [px,py] _ (row_two _ px py 3 _ (by simp)) (by simp) (by omega) (by omega)).mono ?_
    rintro e w1 ⟨rfl,hb1⟩;rw [show flatB 1000 [px,py]=okPt (px,py) by simp [flatB,okPt]]
    replace X:=((X.alloc _).alloc _).keep hb1;replace F:=((F.alloc _).alloc _).keep hb1;replace hs1:=((hs1.alloc _).alloc _).below hb1;have hB1:=((hB.alloc hz _).alloc (by simp;omega) _).trans (hb1.mono (by simp;omega))
    clear hb1 c0 c1 hb hB;go_wp2_with fail;go_roundw
    case rel=>exact ⟨k+1,by omega,by go_num,by rw [HT.out];simp,X,F,hs1,hB1⟩
    case measure=>simp [intOf];omega
  ·have:k=s.compass.length:=by omega
   subst this;rw [List.take_length];generalize hb0:(s.ok0 && s.compass.all okPt)=b0;obtain ⟨x0,x1,x2,x3,x4,x5,x6,x7⟩:=Gq X;go_wp2_with fail;obtain ⟨wo,hwo⟩:∃ wo:World,wo=wr:=⟨_,rfl⟩;subst hwo;go_loopw [5,74] (fun o i wr=>∃ k:Nat,k<=s.pockets.length/\i=.int .i64 k/\o=.bool (b0 && (s.pockets.take k).all okPk)/\Bk wr w.heap.size 163 (s.cells z)/\Bk wr (w.heap.size+1) 24 #[.int .i64 s.f.eye,.int .i64 s.f.rings,.int .i64 s.f.sec,.slice z.a1 s.f.kinds.length z.c1]/\StAt wr s z/\Below w.heap.size w wr) (fun _ i _=>s.pockets.length - (intOf i).toNat)
   case atStart=>exact ⟨0,Nat.zero_le _,rfl,by simp,X,F,hs1,hB⟩
   case round =>
    clear X F hs1 hB x0 x1 x2 x3 x4 x5 x6 x7;obtain ⟨k,hk,rfl,rfl,X,F,hs1,hB⟩:=hrel
    by_cases hlt:k<s.pockets.length
    ·have hkI:(k:Int)<s.pockets.length:=by omega
     have hst:Hid (∀ b,(b0 && (s.pockets.take k).all okPk)=b->(b0 && (s.pockets.take (k+1)).all okPk)=(b && okPk (s.pockets.getD k ((0,0),0)))):=by
      rintro b rfl;rw [all_take okPk ((0,0),0) _ _ hlt,Bool.and_assoc]
     have HT:=hst.out _ rfl;have HT:=Hd HT;clear hst;obtain ⟨b,off,hA,hb,hc⟩:=hs1.pockets.pk (by omega)
     obtain ⟨c0,c1,c2⟩:=hc k hlt;clear hc;generalize s.pockets.getD k ((0,0),0)=p at *;obtain ⟨⟨px,py⟩,pm⟩:=p;simp only at c0 c1 c2;rw [hA];clear hA;have hz:=hB.size;cases hb1:(b0 && (s.pockets.take k).all okPk)
     ·rw [hb1] at HT;clear hb1;go_wp2_with fail;go_roundw
      case rel=>exact ⟨k+1,by omega,by go_num,by rw [HT.out];rfl,X.alloc _,F.alloc _,hs1.alloc _,hB.alloc hz _⟩
      case measure=>simp [intOf];omega
     ·rw [hb1] at HT;clear hb1;go_wp2_with fail;refine (flat_any _ _ 1000000 [px,py] _ (row_two _ px py 3 _ (by simp)) (by simp) (by omega) (by omega)).mono ?_
      rintro e w1 ⟨rfl,hb1⟩;replace X:=((X.alloc _).alloc _).keep hb1;replace F:=((F.alloc _).alloc _).keep hb1;replace hs1:=((hs1.alloc _).alloc _).below hb1;have hB1:=((hB.alloc hz _).alloc (by simp;omega) _).trans (hb1.mono (by simp;omega))
      have Pk:Bk w1 wr.heap.size 154 #[.int .i64 px,.int .i64 py,.int .i64 pm]:=((Aa rfl).alloc _).keep hb1;have p2:=Pk.cell 2;simp at p2;clear hb1 c0 c1 c2 hb hB
      by_cases hf:flatB 1000000 [px,py]=true
      ·rw [hf];have hf2:inB px (-1000000) 1000000=true/\inB py (-1000000) 1000000=true:=by simpa [flatB] using hf
       obtain ⟨hf2,hf3⟩:=hf2
       by_cases h6:0<=pm
       ·by_cases h7:pm<=255
        ·have hv:=Hd (show okPk ((px,py),pm)=true by simp only [okPk,hf2,hf3,Bool.true_and,Bool.and_true];simp [inB,h6,h7])
         clear hf hf2 hf3;go_wp2_with fail;go_roundw
         case rel=>exact ⟨k+1,by omega,by go_num,by rw [HT.out,hv.out];first | rfl | (simp;omega),X,F,hs1,hB1⟩
         case measure=>simp [intOf];omega
        ·have h7I:255<pm:=by omega
         have hv:=Hd (show okPk ((px,py),pm)=false by simp [okPk,inB]<;>omega)
         clear hf hf2 hf3;go_wp2_with fail;go_roundw
         case rel=>exact ⟨k+1,by omega,by go_num,by rw [HT.out,hv.out];first | rfl | (simp;omega),X,F,hs1,hB1⟩
         case measure=>simp [intOf];omega
       ·have h6I:pm<0:=by omega
        have hv:=Hd (show okPk ((px,py),pm)=false by simp [okPk,inB]<;>omega)
        clear hf hf2 hf3;go_wp2_with fail;go_roundw
        case rel=>exact ⟨k+1,by omega,by go_num,by rw [HT.out,hv.out];first | rfl | (simp;omega),X,F,hs1,hB1⟩
        case measure=>simp [intOf];omega
      ·have hf':flatB 1000000 [px,py]=false:=by simpa using hf
       rw [hf'];have hv:=Hd (show okPk ((px,py),pm)=false by
        have:(inB px (-1000000) 1000000 && inB py (-1000000) 1000000)=false:=by simpa [flatB] using hf'
        simp only [okPk,this,Bool.false_and])
       clear hf hf';go_wp2_with fail;go_roundw
       case rel=>exact ⟨k+1,by omega,by go_num,by rw [HT.out,hv.out];first | rfl | (simp;omega),X,F,hs1,hB1⟩
       case measure=>simp [intOf];omega
    ·have:k=s.pockets.length:=by omega
     subst this;rw [List.take_length];have hok:(b0 && s.pockets.all okPk)=s.ok:=by rw [<- hb0];exact (ok_split s).symm
     rw [hok];clear hok hb0
     by_cases hk:s.ok=true
     ·rw [hk];have hz:=hB.size;obtain ⟨x0,x1,x2,x3,x4,x5,x6,x7⟩:=Gq X;go_upto_region 16 with fail
      have R:Bk (wr.alloc (.cells #[.int .i64 s.f.eye,.int .i64 s.f.rings,.int .i64 s.f.sec,.slice z.a1 s.f.kinds.length z.c1,.slice z.a2 s.heights.length z.c2,.slice z.a3 s.compass.length z.c3,.slice z.a4 s.pockets.length z.c4,.int .i64 s.tol,.int .i64 0,.int .i64 0] 274)) wr.heap.size 274 (s.cells z ++ #[.int .i64 (momX s 0),.int .i64 (momY s 0)]):=Aa rfl;have Xl:=X.lt;have Fl:=F.lt;replace X:=X.alloc (.cells #[.int .i64 s.f.eye,.int .i64 s.f.rings,.int .i64 s.f.sec,.slice z.a1 s.f.kinds.length z.c1,.slice z.a2 s.heights.length z.c2,.slice z.a3 s.compass.length z.c3,.slice z.a4 s.pockets.length z.c4,.int .i64 s.tol,.int .i64 0,.int .i64 0] 274);replace F:=F.alloc (.cells #[.int .i64 s.f.eye,.int .i64 s.f.rings,.int .i64 s.f.sec,.slice z.a1 s.f.kinds.length z.c1,.slice z.a2 s.heights.length z.c2,.slice z.a3 s.compass.length z.c3,.slice z.a4 s.pockets.length z.c4,.int .i64 s.tol,.int .i64 0,.int .i64 0] 274);replace hs1:=hs1.alloc (.cells #[.int .i64 s.f.eye,.int .i64 s.f.rings,.int .i64 s.f.sec,.slice z.a1 s.f.kinds.length z.c1,.slice z.a2 s.heights.length z.c2,.slice z.a3 s.compass.length z.c3,.slice z.a4 s.pockets.length z.c4,.int .i64 s.tol,.int .i64 0,.int .i64 0] 274);replace hB:=hB.alloc hz (.cells #[.int .i64 s.f.eye,.int .i64 s.f.rings,.int .i64 s.f.sec,.slice z.a1 s.f.kinds.length z.c1,.slice z.a2 s.heights.length z.c2,.slice z.a3 s.compass.length z.c3,.slice z.a4 s.pockets.length z.c4,.int .i64 s.tol,.int .i64 0,.int .i64 0] 274);generalize wr.alloc (.cells _ 274)=U2 at *;generalize hg:wr.heap.size=g at *;have hXg:w.heap.size≠g:=by omega
      have hFg:w.heap.size+1≠g:=by omega
      clear hg Xl Fl x0 x1 x2 x3 x4 x5 x6 x7;have f3:=F.cell 3;simp at f3;go_wp2_with fail;go_loopw [108] (fun i wr=>∃ k:Nat,k<=s.f.kinds.length/\i=.int .i64 k/\Bk wr g 274 (s.cells z ++ #[.int .i64 (momX s k),.int .i64 (momY s k)])/\Bk wr w.heap.size 163 (s.cells z)/\Bk wr (w.heap.size+1) 24 #[.int .i64 s.f.eye,.int .i64 s.f.rings,.int .i64 s.f.sec,.slice z.a1 s.f.kinds.length z.c1]/\StAt wr s z/\Below w.heap.size w wr) (fun i _=>s.f.kinds.length - (intOf i).toNat)
      case atStart=>exact ⟨0,Nat.zero_le _,rfl,R,X,F,hs1,hB⟩
      case round =>
       clear R X F hs1 hB f3;obtain ⟨k,hkn,rfl,R,X,F,hs1,hB⟩:=hrel
       by_cases hlt:k<s.f.kinds.length
       ·have hkI:(k:Int)<s.f.kinds.length:=by omega
        obtain ⟨k1,k2,k3,k4,k5,k6,k7,k8⟩:=fac_ok (stn_ok hk).1;obtain ⟨r1,r2,_⟩:=cell_ring hk hlt;obtain ⟨m1,m2⟩:=mass_bound hk hlt;obtain ⟨a1,a2⟩:=arm_bound hk hlt;obtain ⟨⟨d1,d2⟩,d3,d4⟩:=dir_bound hk k ⟨a1,a2⟩;obtain ⟨⟨e1,e2⟩,e3,e4⟩:=mom_bound hk k (by omega)
        obtain ⟨hml,hm⟩:=sec_idx hk k;have hsz:(s.f.sec == 0)=false:=by simp;omega
        obtain ⟨b,off,hA,hb,hc⟩:=hs1.compass.pt (by omega)
        obtain ⟨c0,c1⟩:=hc _ hml;clear hc;have HM:Hid (∀ x:Ext wr,Calls Tryz.prog 159 #[.agg (s.cells z),.int .i64 k] x.w fun e w'=>e=.returned (.int .i64 (massV s k))/\Below x.w.heap.size x.w w'):=fun x=>mass_any s z k x.w (hs1.below x.bel) hk hlt
        unfold Stn.cells at HM;have HN:Hid (momX s (k+1)=momX s k+(s.compass.getD (k % s.f.sec.toNat) (0,0)).1*(massV s k*(s.f.eye+(k:Int) / s.f.sec+1))/\momY s (k+1)=momY s k+(s.compass.getD (k % s.f.sec.toNat) (0,0)).2*(massV s k*(s.f.eye+(k:Int) / s.f.sec+1))):=⟨rfl,rfl⟩;obtain ⟨x0,x1,x2,x3,x4,x5,x6,x7⟩:=Gq X;have q0:=R.cell 8;have q1:=R.cell 9;have hq:(s.cells z ++ #[Value.int .i64 (momX s k),Value.int .i64 (momY s k)])[8]?=some (Value.int .i64 (momX s k))/\(s.cells z ++ #[Value.int .i64 (momX s k),Value.int .i64 (momY s k)])[9]?=some (Value.int .i64 (momY s k)):=⟨rfl,rfl⟩;rw [hq.1] at q0;rw [hq.2] at q1;clear hq;generalize hMX:momX s (k + 1)=MX at *;generalize hMY:momY s (k + 1)=MY at *;have HMX:=Hd hMX;have HMY:=Hd hMY;clear hMX hMY;generalize momX s k=mx at *;generalize momY s k=my at *;generalize massV s k=mv at *;generalize s.compass.getD (k % s.f.sec.toNat) (0,0)=d at *;generalize k % s.f.sec.toNat=m at *;obtain ⟨dx,dy⟩:=d;simp only at c0 c1 d1 d2 d3 d4 HN;generalize hr:(k:Int) / s.f.sec=r at *;have HP:Hid (∀ W:World,Calls Tryz.prog 158 #[.agg #[.int .i64 mx,.int .i64 my],.agg #[.int .i64 dx,.int .i64 dy],.int .i64 (mv*(s.f.eye+r+1))] W fun e w'=>e=.returned (.agg #[.int .i64 (mx+dx*(mv*(s.f.eye+r+1))),.int .i64 (my+dy*(mv*(s.f.eye+r+1)))])/\Below W.heap.size W w'):=fun W=>plus_any _ _ _ _ _ _ (by omega) (by omega) (by omega) (by omega)
        rw [<- HN.out.1,<- HN.out.2] at HP;have hmlI:(m:Int)<s.compass.length:=by omega
        clear d1 d2 d3 d4 e1 e2 e3 e4;have f0:=F.cell 0;have f2:=F.cell 2;simp at f0 f2;go_upto_region 19 with fail
        rw [hA] at x5 HM;refine By 26 (by kernel_rfl) (by kernel_rfl) (fun _ _ d _ _ h=>by cases d<;>exact h) ?_
        simp only [List.take_succ_cons,List.take_zero,List.drop_succ_cons,List.drop_zero];have X0:=fun x:Ext wr=>Ag x.bel x0
        have X1:=fun x:Ext wr=>Ag x.bel x1
        have X2:=fun x:Ext wr=>Ag x.bel x2
        have X3:=fun x:Ext wr=>Ag x.bel x3
        have X4:=fun x:Ext wr=>Ag x.bel x4
        have X5:=fun x:Ext wr=>Ag x.bel x5
        have X6:=fun x:Ext wr=>Ag x.bel x6
        have X7:=fun x:Ext wr=>Ag x.bel x7
        have Q0:=fun x:Ext wr=>Ag x.bel q0
        have Q1:=fun x:Ext wr=>Ag x.bel q1
        have F0:=fun x:Ext wr=>Ag x.bel f0
        have F2:=fun x:Ext wr=>Ag x.bel f2
        have C0:=fun x:Ext wr=>Ag x.bel c0
        have C1:=fun x:Ext wr=>Ag x.bel c1
        clear x0 x1 x2 x3 x4 x5 x6 x7 q0 q1 f0 f2 c0 c1;repeat (go_big_quiet_step ((first | (go_at_call 159;exact Cj (HM.out _)) | (go_at_call 158;exact Cj (HP.out _)))))
        refine wpQuiet_nil ?_;rintro _ ⟨y,rfl⟩;clear X0 X1 X2 X3 X4 X5 X6 X7 Q0 Q1 F0 F2 C0 C1;have hb1:=y.bel;generalize y.w=w2 at hb1 ⊢;replace X:=X.keep hb1;replace F:=F.keep hb1;replace R:=R.keep hb1;replace hs1:=hs1.below hb1;replace hB:=hB.trans (hb1.mono hB.size);have q2:=R.fz 8;have q3:=R.fz 9;have q0:=R.cell 8;have q1:=R.cell 9;have hq:(s.cells z ++ #[Value.int .i64 mx,Value.int .i64 my])[8]?=some (Value.int .i64 mx)/\(s.cells z ++ #[Value.int .i64 mx,Value.int .i64 my])[9]?=some (Value.int .i64 my):=⟨rfl,rfl⟩;rw [hq.1] at q0;rw [hq.2] at q1;clear hq hb1 hr hm HM HP HN;have HR2:=Hd ((R.put 8 (.int .i64 MX)).put 9 (.int .i64 MY));have HX2:=Hd ((X.far (p:=⟨g,8,none⟩) hXg (.int .i64 MX)).far (p:=⟨g,9,none⟩) hXg (.int .i64 MY));have HF2:=Hd ((F.far (p:=⟨g,8,none⟩) hFg (.int .i64 MX)).far (p:=⟨g,9,none⟩) hFg (.int .i64 MY));have HB2:=Hd ((hB.setCell (p:=⟨g,8,none⟩) (by simp;omega) (.int .i64 MX)).setCell (p:=⟨g,9,none⟩) (by simp;omega) (.int .i64 MY))
        go_wp2_with fail;go_roundw
        case rel=>exact ⟨k+1,by omega,by go_num,by rw [HMX.out,HMY.out];exact HR2.out,HX2.out,HF2.out,HS.out.below HB2.out,HB2.out⟩
        case measure=>simp [intOf];omega
       ·have:k=s.f.kinds.length:=by omega
        subst this;go_wp2_with fail;go_ret2;exact ⟨hB,.inr ⟨hk,g,rfl,hz,R⟩⟩
     ·have hk':s.ok=false:=by simpa using hk
      rw [hk'];go_wp2_with fail;go_ret2;exact ⟨hB,.inl ⟨hk',rfl⟩⟩
end Go.Proofs.YteihcodicfoiaaaGreat
