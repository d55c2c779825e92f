/-
  What is proved: the contract of CheckBase.
-/
import Derived.Test.YteihcodicfoiaaaGreat19Mf
import Derived.Test.YteihcodicfoiaaaGreatMannedMf
import Derived.Test.YteihcodicfoiaaaGreatEach2Mf
import Derived.Test.YteihcodicfoiaaaGreatFreeMf
import Derived.Test.YteihcodicfoiaaaGreatKeepMf
namespace Go.Proofs.YteihcodicfoiaaaGreat
set_option maxRecDepth 100000
set_option maxHeartbeats 8000000
open Go Go.RowKit
def tcV (s:Stn):Int:=if s.ok then 0 else 60
theorem tcV_ok {s:Stn} (h:s.ok=true):tcV s=0:=by unfold tcV;rw [h];rfl
theorem tcV_bad {s:Stn} (h:s.ok=false):tcV s=60:=by unfold tcV;rw [h];rfl
def TCheckP (s:Stn) (w:World) (e:Ending) (w':World):Prop:=e=.returned (.int .i64 (tcV s))/\Below w.heap.size w w'
theorem tcheck_any (s:Stn) (z:Loc) (w:World) (hs:StAt w s z) :
  Calls Tryz.prog 68 #[s.val z] w (TCheckP s w):=by
 have HO:=Hd (fun (X:World) (h:Below w.heap.size w X)=>topen_any s z X (hs.below h))
 obtain ⟨W,hW⟩:∃ W,w.alloc (.cells (s.cells z) 163)=W:=⟨_,rfl⟩;have hbW:Below w.heap.size w W:=by rw [<- hW];exact Ba
 have X:=(show Bk W w.heap.size 163 (s.cells z) by rw [<- hW];exact Aa rfl)
 obtain ⟨x0,x1,x2,x3,x4,x5,x6,x7⟩:=Gq X;unfold Stn.val Stn.cells at *;have HW:=Hd hW;clear hW X hs;go_enter Tryz.func68,Tryz.ntmps68;go_upto_region 1 with fail
 rw [HW.out];clear HW;go_wp2_with fail;refine (HO.out W hbW).mono ?_;rintro e w1 ⟨hb1,⟨hk,rfl⟩ | ⟨hk,g,rfl,hg,hB⟩⟩
 ·have HK:=Hd hk;clear hk;go_wp2_with fail;go_ret;exact ⟨by rw [tcV_bad HK.out];rfl,hbW.trans (hb1.mono hbW.size)⟩
 ·have HK:=Hd hk;clear hk;go_wp2_with fail;go_ret;exact ⟨by rw [tcV_ok HK.out];rfl,hbW.trans (hb1.mono hbW.size)⟩
def restA (b:Al):Bool:=inB b.lift 0 1000000000 && inB b.top 0 1000000000 && gradedB b.grades && Cf b.slo b.shi 1 4095
def restS (b:Al):Bool:=eachB b.s0 b.bed.kinds.length (-100000) 100000 && eachB b.a0 b.bed.kinds.length (-100000) 100000
def restT (b:Al):Bool:=eachB b.s1 b.bed.kinds.length (-100000) 100000 && eachB b.a1 b.bed.kinds.length (-100000) 100000
def Jm (b:Al):Nat->Bool
 | 0=>restA b
 | 1=>restA b && restS b
 | _=>restA b && restS b && restT b
def restC (b:Al):Bool:=Cf b.dlo b.dhi 1 100000 && inB b.wide 1 b.bed.sec && mannedB b && Hn b.meshes && inB b.houses 1 8
def restB (b:Al):Bool:=restA b && restS b && restT b && restC b && (stnOf b (List.replicate b.bed.kinds.length 0)).ok
def Fw (b:Al):Prop:=freeOk b/\restB b=true
def CheckP (b:Al) (w:World) (e:Ending) (w':World):Prop :=
 Below w.heap.size w w'/\((Fw b/\e=.returned (.int .i64 0))\/(¬ Fw b/\e=.returned (.int .i64 100)))
attribute [local go_sem ↓] Hp Bu
theorem Gv (b:Al) (z:Df) (w:World) (hb:Fa w b z) (hf:b.Few) :
  Calls Tryz.prog 33 #[.agg (b.arr z)] w (CheckP b w):=by
 obtain ⟨W,hW⟩:∃ W,w.alloc (.cells (b.arr z) 41)=W:=⟨_,rfl⟩;have hbW:Below w.heap.size w W:=by rw [<- hW];exact Ba
 have X:=(show Bk W w.heap.size 41 (b.arr z) by rw [<- hW];exact Aa rfl)
 have HFR:=Hd (Free_any b z W (hb.below hbW) hf);have HBA:=Hd hb;have HF:=Hd hf;have HX:=Hd X;have x0:=X.cell 0;have x1:=X.cell 1;have x2:=X.cell 2;have x3:=X.cell 3;have x4:=X.cell 4;have x5:=X.cell 5;have x6:=X.cell 6;have x7:=X.cell 7;have x8:=X.cell 8;simp [Al.arr] at x0 x1 x2 x3 x4 x5 x6 x7 x8;unfold pairV at HFR;have HW:=Hd hW;clear hW hb hf X;go_enter Tryz.func33,Tryz.ntmps33;go_upto_region 1 with fail
 rw [HW.out];clear HW;go_wp2_with fail;refine HFR.out.mono ?_;rintro e w1 ⟨hb1,hres⟩;have hb1w:=hbW.trans (hb1.mono hbW.size);rcases hres with ⟨hfree,rfl⟩ | ⟨hno,rfl | rfl⟩
 case inr.inl =>
  have HN:Hid (¬ Fw b):=fun h=>hno h.1
  clear hno x0 x1 x2 x3 x4 x5 x6 x7 x8;go_wp2_with fail;go_ret;exact ⟨hb1w,.inr ⟨HN.out,rfl⟩⟩
 case inr.inr =>
  have HN:Hid (¬ Fw b):=fun h=>hno h.1
  clear hno x0 x1 x2 x3 x4 x5 x6 x7 x8;go_wp2_with fail;go_ret;exact ⟨hb1w,.inr ⟨HN.out,rfl⟩⟩
 have HFO:=Hd hfree;have X:=HX.out.keep hb1;clear hfree x0 x1 x2 x3 x4 x5 x6 x7 x8 HFR HX hb1 hbW;have x3:=X.cell 3;have x9:=X.cell 9;have x10:=X.cell 10;have x11:=X.cell 11;have x12:=X.cell 12;have x13:=X.cell 13;simp [Al.arr] at x3 x9 x10 x11 x12 x13;have HGR:=Hd (fun (X:World) (h:Below w.heap.size w X)=>graded_any z.grades.1 z.grades.2 b.grades X ((HBA.out.below h).grades) (by have:=HF.out.grades;omega))
 have HX1:=Hd X;clear X;go_upto_region 5 with fail
 go_cut [6] from 25 to 42 (fun v6 wx=>v6=.bool (restA b)/\Below w.heap.size w wx/\Bk wx w.heap.size 41 (b.arr z))
 case first =>
  have HRA:Hid (restA b=(inB b.lift 0 1000000000 && inB b.top 0 1000000000 && gradedB b.grades && Cf b.slo b.shi 1 4095)):=rfl;cases q1:inB b.lift 0 1000000000 with
  | false =>
   have HQ:Hid (restA b=false):=by refine Hd ?_;rw [HRA.out,q1];rfl
   go_wp2_with (go_at_call 36;refine (Bm _ _ _ _).mono ?_;rintro e w2 ⟨rfl,rfl⟩;rw [q1]);go_meet
   case rel=>exact ⟨by rw [HQ.out],hb1w,HX1.out⟩
  | true =>
   cases q2:inB b.top 0 1000000000 with
   | false =>
    have HQ:Hid (restA b=false):=by refine Hd ?_;rw [HRA.out,q1,q2];rfl
    go_wp2_with (go_at_call 36;refine (Bm _ _ _ _).mono ?_;rintro e w2 ⟨rfl,rfl⟩;first | rw [q1] | rw [q2])
    go_meet
    case rel=>exact ⟨by rw [HQ.out],hb1w,HX1.out⟩
   | true =>
    cases q3:gradedB b.grades with
    | false =>
     have HQ:Hid (restA b=false):=by refine Hd ?_;rw [HRA.out,q1,q2,q3];rfl
     go_wp2_with (first | (go_at_call 36;refine (Bm _ _ _ _).mono ?_;rintro e w2 ⟨rfl,rfl⟩;first | rw [q1] | rw [q2]) | (go_at_call 64;refine (HGR.out _ hb1w).mono ?_;rintro e w2 ⟨rfl,hw2⟩;rw [q3,hw2]))
     go_meet
     case rel=>exact ⟨by rw [HQ.out],hb1w,HX1.out⟩
    | true =>
     have HQ:Hid (restA b=Cf b.slo b.shi 1 4095):=by refine Hd ?_;rw [HRA.out,q1,q2,q3];rfl
     go_wp2_with (first | (go_at_call 36;refine (Bm _ _ _ _).mono ?_;rintro e w2 ⟨rfl,rfl⟩;first | rw [q1] | rw [q2]) | (go_at_call 64;refine (HGR.out _ hb1w).mono ?_;rintro e w2 ⟨rfl,hw2⟩;rw [q3,hw2];clear hw2) | (go_at_call 65;refine (Jf _ _ _ _ _).mono ?_;rintro e w3 ⟨rfl,hb3⟩))
     go_meet
     case rel=>exact ⟨by rw [HQ.out],hb1w.trans (hb3.mono hb1w.size),HX1.out.keep hb3⟩
 case rest =>
  obtain ⟨rfl,hbc,X⟩:=hcut;clear x3 x9 x10 x11 x12 x13 HX1 hb1w HGR;go_wp2_with fail;go_loopw [6,43] (fun v6 i wr=>∃ k:Nat,k<=2/\i=.int .i64 k/\v6=.bool (Jm b k)/\Below w.heap.size w wr/\Bk wr w.heap.size 41 (b.arr z)) (fun _ i _=>2 - (intOf i).toNat)
  case atStart=>exact ⟨0,Nat.zero_le _,rfl,rfl,hbc,X⟩
  case round =>
   clear X hbc;obtain ⟨k,hk,rfl,rfl,hB,X⟩:=hrel;have hk3:k=0\/k=1\/k=2:=by omega
   rcases hk3 with rfl | rfl | rfl
   ·have x14:=X.cell 14;have x16:=X.cell 16;simp [Al.arr] at x14 x16;have hlt:=X.lt;have HXB:=Hd (Ai X hB);clear X;have HV:Hid (Jm b 1=(Jm b 0 && (eachB b.s0 b.bed.kinds.length (-100000) 100000 && eachB b.a0 b.bed.kinds.length (-100000) 100000))):=by refine Hd ?_;simp only [Jm,restS,Bool.and_assoc]
    have HE1:=Hd (fun (X:World) (h:Below w.heap.size w X)=>each_any z.s0.1 z.s0.2 b.s0 b.bed.kinds.length (-100000) 100000 X ((HBA.out.below h).s0) (by have:=HF.out.s0;omega))
    have HE2:=Hd (fun (X:World) (h:Below w.heap.size w X)=>each_any z.a0.1 z.a0.2 b.a0 b.bed.kinds.length (-100000) 100000 X ((HBA.out.below h).a0) (by have:=HF.out.a0;omega))
    cases q0:Jm b 0 with
    | false =>
     have HQ:Hid (Jm b 1=false):=by refine Hd ?_;rw [HV.out,q0];rfl
     clear HV HE1 HE2;go_wp2_with fail;go_roundw
     case rel=>exact ⟨1,by omega,by go_num,by rw [HQ.out],HXB.out.2,HXB.out.1⟩
     case measure=>simp [intOf]
    | true =>
     cases q1:eachB b.s0 b.bed.kinds.length (-100000) 100000 with
     | false =>
      have HQ:Hid (Jm b 1=false):=by refine Hd ?_;rw [HV.out,q0,q1];rfl
      rw [q1] at HE1;clear HV HE2 q1 q0;go_wp2_with (go_at_call 66;refine (HE1.out _ hB).mono ?_;rintro e w2 ⟨rfl,hb2⟩);go_roundw
      case rel=>exact ⟨1,by omega,by go_num,by rw [HQ.out],HXB.out.2.trans (hb2.mono HXB.out.2.size),HXB.out.1.keep hb2⟩
      case measure=>simp [intOf]
     | true =>
      have HQ:Hid (Jm b 1=eachB b.a0 b.bed.kinds.length (-100000) 100000):=by refine Hd ?_;rw [HV.out,q0,q1];rfl
      rw [q1] at HE1;clear HV q1 q0;go_wp2_with fail;refine (HE1.out _ hB).mono ?_;rintro e w2 ⟨rfl,hb2⟩;obtain ⟨hcc,hff⟩:=bcell hb2;go_wp2_with fail;refine (HE2.out _ (hB.trans (hb2.mono hB.size))).mono ?_;rintro e w3 ⟨rfl,hb3⟩;go_wp2_with fail;go_roundw
      case rel=>exact ⟨1,by omega,by go_num,by rw [HQ.out],(HXB.out.2.trans (hb2.mono HXB.out.2.size)).trans (hb3.mono (HXB.out.2.trans (hb2.mono HXB.out.2.size)).size),(HXB.out.1.keep hb2).keep hb3⟩
      case measure=>simp [intOf]
   ·have x15:=X.cell 15;have x17:=X.cell 17;simp [Al.arr] at x15 x17;have hlt:=X.lt;have HXB:=Hd (Ai X hB);clear X;have HV:Hid (Jm b 2=(Jm b 1 && (eachB b.s1 b.bed.kinds.length (-100000) 100000 && eachB b.a1 b.bed.kinds.length (-100000) 100000))):=by refine Hd ?_;simp only [Jm,restT,Bool.and_assoc]
    have HE1:=Hd (fun (X:World) (h:Below w.heap.size w X)=>each_any z.s1.1 z.s1.2 b.s1 b.bed.kinds.length (-100000) 100000 X ((HBA.out.below h).s1) (by have:=HF.out.s1;omega))
    have HE2:=Hd (fun (X:World) (h:Below w.heap.size w X)=>each_any z.a1.1 z.a1.2 b.a1 b.bed.kinds.length (-100000) 100000 X ((HBA.out.below h).a1) (by have:=HF.out.a1;omega))
    cases q0:Jm b 1 with
    | false =>
     have HQ:Hid (Jm b 2=false):=by refine Hd ?_;rw [HV.out,q0];rfl
     clear HV HE1 HE2;go_wp2_with fail;go_roundw
     case rel=>exact ⟨2,by omega,by go_num,by rw [HQ.out],HXB.out.2,HXB.out.1⟩
     case measure=>simp [intOf]
    | true =>
     cases q1:eachB b.s1 b.bed.kinds.length (-100000) 100000 with
     | false =>
      have HQ:Hid (Jm b 2=false):=by refine Hd ?_;rw [HV.out,q0,q1];rfl
      rw [q1] at HE1;clear HV HE2 q1 q0;go_wp2_with (go_at_call 66;refine (HE1.out _ hB).mono ?_;rintro e w2 ⟨rfl,hb2⟩);go_roundw
      case rel=>exact ⟨2,by omega,by go_num,by rw [HQ.out],HXB.out.2.trans (hb2.mono HXB.out.2.size),HXB.out.1.keep hb2⟩
      case measure=>simp [intOf]
     | true =>
      have HQ:Hid (Jm b 2=eachB b.a1 b.bed.kinds.length (-100000) 100000):=by refine Hd ?_;rw [HV.out,q0,q1];rfl
      rw [q1] at HE1;clear HV q1 q0;go_wp2_with fail;refine (HE1.out _ hB).mono ?_;rintro e w2 ⟨rfl,hb2⟩;obtain ⟨hcc,hff⟩:=bcell hb2;go_wp2_with fail;refine (HE2.out _ (hB.trans (hb2.mono hB.size))).mono ?_;rintro e w3 ⟨rfl,hb3⟩;go_wp2_with fail;go_roundw
      case rel=>exact ⟨2,by omega,by go_num,by rw [HQ.out],(HXB.out.2.trans (hb2.mono HXB.out.2.size)).trans (hb3.mono (HXB.out.2.trans (hb2.mono HXB.out.2.size)).size),(HXB.out.1.keep hb2).keep hb3⟩
      case measure=>simp [intOf]
   ·go_upto_region 11 with fail
    have hbw:=hB;have x18:=X.cell 18;have x19:=X.cell 19;have x20:=X.cell 20;have x2:=X.cell 2;simp [Al.arr] at x18 x19 x20 x2;have hlt:=X.lt;have HX1:=Hd X;clear X;go_cut [6] from 65 to 92 (fun v6 wx=>v6=.bool (Jm b 2 && restC b)/\Below w.heap.size w wx/\Bk wx w.heap.size 41 (b.arr z))
    case first =>
     have HRC:Hid (restC b=(Cf b.dlo b.dhi 1 100000 && (inB b.wide 1 b.bed.sec && (mannedB b && (Hn b.meshes && inB b.houses 1 8))))):=by refine Hd ?_;simp only [restC,Bool.and_assoc]
     have hfo:=HFO.out.1;obtain ⟨f1,f2,f3,f4,f5⟩:=faces_of hfo;obtain ⟨a1,a2,a3,a4,a5,a6,a7,_⟩:=fac_ok f1;have HMA:=Hd (fun (X:World) (h:Below w.heap.size w X)=>manned_any b z X (HBA.out.below h) HF.out (by omega))
     have HTR:=Hd (fun (X:World) (h:Below w.heap.size w X)=>validTrain_any z.meshes.1 z.meshes.2 b.meshes X (HBA.out.below h).meshes (by have:=HF.out.meshes;omega))
     clear hfo f1 f2 f3 f4 f5 a1 a2 a3 a4 a5 a6 a7;cases q0:Jm b 2 with
     | false =>
      go_wp2_with fail;go_meet
      case rel=>exact ⟨by simp [q0],hbw,HX1.out⟩
     | true =>
      have HQ0:=Hd q0;cases q1:Cf b.dlo b.dhi 1 100000 with
      | false =>
       have HQ:Hid (restC b=false):=by refine Hd ?_;rw [HRC.out,q1];rfl
       clear HRC HMA HTR;go_wp2_with fail;refine (Jf _ _ _ _ _).mono ?_;rintro e w2 ⟨rfl,hb2⟩;rw [q1];clear q1;go_wp2_with fail;go_meet
       case rel=>exact ⟨by rw [HQ.out,HQ0.out];rfl,hbw.trans (hb2.mono hbw.size),HX1.out.keep hb2⟩
      | true =>
       go_wp2_with fail;refine (Jf _ _ _ _ _).mono ?_;rintro e w2 ⟨rfl,hb2⟩;rw [q1];have hbw2:=hbw.trans (hb2.mono hbw.size);have X2:=HX1.out.keep hb2;clear x18 x19 x20 x2 hb2 HX1;have x20:=X2.cell 20;have x2:=X2.cell 2;simp [Al.arr] at x20 x2;have HX2:=Hd X2;clear X2;cases q2:inB b.wide 1 b.bed.sec with
       | false =>
        have HQ:Hid (restC b=false):=by refine Hd ?_;rw [HRC.out,q1,q2];rfl
        clear HRC HMA HTR q1;go_wp2_with fail;refine (Bm _ _ _ _).mono ?_;rintro e w3 ⟨rfl,rfl⟩;rw [q2];clear q2;go_wp2_with fail;go_meet
        case rel=>exact ⟨by rw [HQ.out,HQ0.out];rfl,hbw2,HX2.out⟩
       | true =>
        have HM:=Hd (HMA.out _ hbw2);have HQ:Hid (restC b=(mannedB b && (Hn b.meshes && inB b.houses 1 8))):=by refine Hd ?_;rw [HRC.out,q1,q2];rfl
        clear HRC HMA q1;go_wp2_with fail;refine (Bm _ _ _ _).mono ?_;rintro e w3 ⟨rfl,rfl⟩;rw [q2];clear q2;have l0:=Ce HX2.out rfl;go_wp2_with fail;clear l0;refine HM.out.mono ?_;rintro e w4 ⟨rfl,hb4⟩;have hbw4:=hbw2.trans (hb4.mono hbw2.size);have X4:=HX2.out.keep hb4;clear x20 x2 hb4 HX2 HM hbw2;have x26:=X4.cell 26;have x27:=X4.cell 27;simp [Al.arr] at x26 x27;have HX4:=Hd X4;clear X4;have HT:=Hd (HTR.out _ hbw4);clear HTR;cases q3:mannedB b with
        | false =>
         have HQ2:Hid (restC b=false):=by refine Hd ?_;rw [HQ.out,q3];rfl
         clear q3 HQ HT;go_wp2_with fail;go_meet
         case rel=>exact ⟨by rw [HQ2.out,HQ0.out];rfl,hbw4,HX4.out⟩
        | true =>
         have HQ2:Hid (restC b=(Hn b.meshes && inB b.houses 1 8)):=by refine Hd ?_;rw [HQ.out,q3];rfl
         clear q3 HQ;go_wp2_with fail;refine HT.out.mono ?_;rintro e w5 ⟨rfl,hb5⟩;have hbw5:=hbw4.trans (hb5.mono hbw4.size);have X5:=HX4.out.keep hb5;clear x26 x27 hb5 HX4 HT hbw4;have x27:=X5.cell 27;simp [Al.arr] at x27;have HX5:=Hd X5;clear X5;cases q4:Hn b.meshes with
         | false =>
          have HQ3:Hid (restC b=false):=by refine Hd ?_;rw [HQ2.out,q4];rfl
          clear q4 HQ2;go_wp2_with fail;go_meet
          case rel=>exact ⟨by rw [HQ3.out,HQ0.out];rfl,hbw5,HX5.out⟩
         | true =>
          have HQ3:Hid (restC b=inB b.houses 1 8):=by refine Hd ?_;rw [HQ2.out,q4];rfl
          clear q4 HQ2;go_wp2_with (go_at_call 36;refine (Bm _ _ _ _).mono ?_;rintro e w6 ⟨rfl,rfl⟩);go_meet
          case rel=>exact ⟨by rw [HQ3.out,HQ0.out];rfl,hbw5,HX5.out⟩
    case rest =>
     obtain ⟨hv6,hbc,X⟩:=hcut;clear x18 x19 x20 x2 HX1 hbw hB hlt;have HV:Hid (restB b=((Jm b 2 && restC b) && (stnOf b (List.replicate b.bed.kinds.length 0)).ok)):=Hd rfl;cases q0:(Jm b 2 && restC b) with
     | false =>
      have HQ:Hid (¬ Fw b):=fun h=>by have h2:=h.2;rw [HV.out,q0] at h2;cases h2
      rw [q0] at hv6;subst hv6;clear q0 HV;go_upto_region 12 with fail
      go_cut [102] from 93 to 102 (fun v wx=>v=.bool true/\Below w.heap.size w wx)
      case first =>
       clear X;go_quiet (fail);go_wp2_with fail;go_meet
       case rel=>exact ⟨rfl,As hbc _⟩
      case rest =>
       obtain ⟨rfl,hbc⟩:=hcut;go_wp2_with fail;go_ret;exact ⟨hbc,.inr ⟨HQ.out,rfl⟩⟩
     | true =>
      rw [q0] at HV hv6;subst hv6;have HV2:Hid (restB b=(stnOf b (List.replicate b.bed.kinds.length 0)).ok):=by refine Hd ?_;rw [HV.out];rfl
      clear HV q0;have HMK:=Hd (make_ints b.bed.kinds.length (by have:=HF.out.bk;omega))
      go_upto_region 12 with fail
      go_cut [102] from 93 to 102 (fun v wx=>v=.bool (!(stnOf b (List.replicate b.bed.kinds.length 0)).ok)/\Below w.heap.size w wx)
      case first =>
       have hlt:=X.lt;have l0:=Ce (w:=wc.drew) X.drew rfl;have HX:=Hd X;have HST:=Hd (fun (X:World) (h:Below w.heap.size w X) (A:Option Addr) (hL:Ad X A (Ac (List.replicate b.bed.kinds.length 0)))=>stoneOf_any b z A b.bed.kinds.length (List.replicate b.bed.kinds.length 0) X (HBA.out.below h) HF.out hL (by have:=HF.out.bk;simp;omega))
       have HTC:=Hd (fun (X:World) (y:Loc) (h:StAt X (stnOf b (List.replicate b.bed.kinds.length 0)) y)=>tcheck_any (stnOf b (List.replicate b.bed.kinds.length 0)) y X h)
       simp only [List.length_replicate] at HST;clear X;have HST2:Hid (∀ wm:World,Bk wm wc.heap.size 3 (Ac (List.replicate b.bed.kinds.length 0)).toArray->Below w.heap.size w wm->Calls Tryz.prog 69 #[.agg (b.arr z),.slice (some ⟨wc.heap.size,0,none⟩) b.bed.kinds.length b.bed.kinds.length] wm (StoneP b (List.replicate b.bed.kinds.length 0) wm)) :=
        fun wm RO hB=>HST.out wm hB (some ⟨wc.heap.size,0,none⟩) (fun _=>⟨wc.heap.size,0,rfl,RO.lt,fun j u hu=>by rw [Nat.zero_add,RO.cell];simpa using hu⟩)
       clear HST;go_region_with (first
        | (obtain ⟨wm,hr,RO,hbm⟩:=HMK.out _;rw [hr];clear hr;have l1:=Ce (HX.out.drew.keep hbm) rfl)
        | (go_at_call 69;refine (HST2.out wm RO (hbc.drew.trans (hbm.mono hbc.drew.size))).mono ?_;rintro e w7 ⟨⟨y,rfl,hy⟩,hb7⟩)
        | (go_at_call 68;refine (HTC.out w7 y hy).mono ?_;rintro e w8 ⟨rfl,hb8⟩))
       all_goals
        cases q1:(stnOf b (List.replicate b.bed.kinds.length 0)).ok with
        | false =>
         rw [tcV_bad q1];have HQ1:=Hd q1;clear q1;go_wp2_with fail;go_meet
         case rel=>exact ⟨by rw [HQ1.out];rfl,((hbc.drew.trans (hbm.mono hbc.drew.size)).trans (hb7.mono (hbc.drew.trans (hbm.mono hbc.drew.size)).size)).trans (hb8.mono ((hbc.drew.trans (hbm.mono hbc.drew.size)).trans (hb7.mono (hbc.drew.trans (hbm.mono hbc.drew.size)).size)).size)⟩
        | true =>
         rw [tcV_ok q1];have HQ1:=Hd q1;clear q1;go_wp2_with fail;go_meet
         case rel=>exact ⟨by rw [HQ1.out];rfl,((hbc.drew.trans (hbm.mono hbc.drew.size)).trans (hb7.mono (hbc.drew.trans (hbm.mono hbc.drew.size)).size)).trans (hb8.mono ((hbc.drew.trans (hbm.mono hbc.drew.size)).trans (hb7.mono (hbc.drew.trans (hbm.mono hbc.drew.size)).size)).size)⟩
      case rest =>
       obtain ⟨rfl,hbc⟩:=hcut;cases q1:(stnOf b (List.replicate b.bed.kinds.length 0)).ok with
       | false =>
        have HQ:Hid (¬ Fw b):=fun h=>by have h2:=h.2;rw [HV2.out,q1] at h2;cases h2
        clear q1;go_wp2_with fail;go_ret;exact ⟨hbc,.inr ⟨HQ.out,rfl⟩⟩
       | true =>
        have HQ:Hid (Fw b):=⟨HFO.out,by rw [HV2.out];exact q1⟩
        clear q1;go_wp2_with fail;go_ret;exact ⟨hbc,.inl ⟨HQ.out,rfl⟩⟩
end Go.Proofs.YteihcodicfoiaaaGreat
