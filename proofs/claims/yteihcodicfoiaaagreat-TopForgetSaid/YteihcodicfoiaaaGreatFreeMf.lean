/-
  What is proved: the contract of Free.
-/
import Derived.Test.YteihcodicfoiaaaGreat12Mf
namespace Go.Proofs.YteihcodicfoiaaaGreat
set_option maxRecDepth 100000
set_option maxHeartbeats 4000000
open Go Go.RowKit
def Al.flr (b:Al):Flr:=⟨b.bed.eye,b.bed.rings.toNat,b.bed.sec.toNat,b.bed.kinds,b.run.kinds,b.drive⟩
def Df.loc (z:Df):Hc:=⟨z.bed.1,z.run.1,z.drive.1,z.bed.2,z.run.2,z.drive.2,z.rows⟩
def pairV (b:Al) (z:Df):Value :=
 .agg #[.int .i64 b.bed.eye,.int .i64 b.bed.rings,.int .i64 b.bed.sec,.slice z.bed.1 b.bed.kinds.length z.bed.2,.int .i64 b.run.eye,.int .i64 b.run.rings,.int .i64 b.run.sec,.slice z.run.1 b.run.kinds.length z.run.2,.slice z.drive.1 b.drive.length z.drive.2]
theorem Fa.pr {w:World} {b:Al} {z:Df} (h:Fa w b z):PrAt w b.flr z.loc:=⟨h.bed,h.run,h.drive,h.rows⟩
theorem faces_of {b:Al} (h:facesOk b.bed b.run=true):b.bed.ok=true/\b.run.ok=true/\b.bed.eye=b.run.eye/\b.bed.rings=b.run.rings/\b.bed.sec=b.run.sec:=by
 simp only [facesOk,Bool.and_eq_true,beq_iff_eq] at h;exact ⟨h.1.1,h.1.2,h.2.1.1,h.2.1.2,h.2.2⟩
theorem fac_kinds {f:Fac} (h:f.ok=true):∀ x∈f.kinds,0<=x/\x<=2:=by
 simp only [Fac.ok,Bool.and_eq_true,inB,decide_eq_true_eq,beq_iff_eq,List.all_eq_true] at h;exact h.2
theorem pre_of {b:Al} (hf:b.Few) (h:facesOk b.bed b.run=true):b.flr.Pre:=by
 obtain ⟨h1,h2,h3,h4,h5⟩:=faces_of h;obtain ⟨a1,a2,a3,a4,a5,a6,a7,_⟩:=fac_ok h1;obtain ⟨b1,b2,b3,b4,b5,b6,b7,_⟩:=fac_ok h2;have r4:=hf.rings;have s6:=hf.sec;have e1:((b.bed.rings.toNat:Nat):Int)=b.bed.rings:=by omega
 have e2:((b.bed.sec.toNat:Nat):Int)=b.bed.sec:=by omega
 refine ⟨a1,a2,?_,?_,?_,?_,?_,?_,fac_kinds h1,fac_kinds h2,hf.drive,hf.drow⟩
 all_goals simp only [Al.flr]
 ·omega
 ·omega
 ·omega
 ·omega
 ·apply Int.ofNat_inj.1
  rw [Int.natCast_mul,e1,e2];exact a7
 ·apply Int.ofNat_inj.1
  rw [Int.natCast_mul,e1,e2,b7,h4,h5]
theorem pairV_pr {b:Al} (z:Df) (h:facesOk b.bed b.run=true):pairV b z=b.flr.pr z.loc:=by
 obtain ⟨h1,h2,h3,h4,h5⟩:=faces_of h;obtain ⟨a1,a2,a3,a4,a5,a6,a7,_⟩:=fac_ok h1;have e1:((b.bed.rings.toNat:Nat):Int)=b.bed.rings:=by omega
 have e2:((b.bed.sec.toNat:Nat):Int)=b.bed.sec:=by omega
 unfold pairV Flr.pr Al.flr Df.loc;simp only [e1,e2,<- h3,<- h4,<- h5]
def freeOk (b:Al):Prop:=facesOk b.bed b.run=true/\drvOk b.flr=true/\FreeF b.flr
def FreeP (b:Al) (w:World) (e:Ending) (w':World):Prop :=
 Below w.heap.size w w'/\((freeOk b/\e=.returned (.tuple #[.bool true,.int .i64 0]))\/(¬ freeOk b/\(e=.returned (.tuple #[.bool false,.int .i64 20])\/e=.returned (.tuple #[.bool false,.int .i64 0]))))
theorem Free_any (b:Al) (z:Df) (w:World) (hb:Fa w b z) (hf:b.Few) :
  Calls Tryz.prog 63 #[pairV b z] w (FreeP b w):=by
 cases hfa:facesOk b.bed b.run with
 | false =>
  have HO:=Hd (fun (X:World) (h:Below w.heap.size w X)=>open_bad b.bed b.run z.bed.1 z.run.1 z.drive.1 z.bed.2 z.run.2 b.drive.length z.drive.2 X (hb.bed.below h) (hb.run.below h) (by have:=hf.bk;omega) (by have:=hf.rk;omega) hfa)
  have HNO:Hid (¬ freeOk b):=fun h=>by have h1:=h.1;rw [hfa] at h1;cases h1
  unfold pairV;obtain ⟨W,hW⟩:∃ W,w.alloc (.cells #[.int .i64 b.bed.eye,.int .i64 b.bed.rings,.int .i64 b.bed.sec,.slice z.bed.1 b.bed.kinds.length z.bed.2,.int .i64 b.run.eye,.int .i64 b.run.rings,.int .i64 b.run.sec,.slice z.run.1 b.run.kinds.length z.run.2,.slice z.drive.1 b.drive.length z.drive.2] 27)=W:=⟨_,rfl⟩;have hbW:Below w.heap.size w W:=by rw [<- hW];exact Ba
  have X:=(show Bk W w.heap.size 27 #[.int .i64 b.bed.eye,.int .i64 b.bed.rings,.int .i64 b.bed.sec,.slice z.bed.1 b.bed.kinds.length z.bed.2,.int .i64 b.run.eye,.int .i64 b.run.rings,.int .i64 b.run.sec,.slice z.run.1 b.run.kinds.length z.run.2,.slice z.drive.1 b.drive.length z.drive.2] by rw [<- hW];exact Aa rfl)
  have x0:=X.cell 0;have x1:=X.cell 1;have x2:=X.cell 2;have x3:=X.cell 3;have x4:=X.cell 4;have x5:=X.cell 5;have x6:=X.cell 6;have x7:=X.cell 7;have x8:=X.cell 8;simp at x0 x1 x2 x3 x4 x5 x6 x7 x8;have HW:=Hd hW;clear hW X hb hf hfa;go_enter Tryz.func63,Tryz.ntmps63;go_upto_region 1 with fail
  rw [HW.out];clear HW;go_wp2_with (go_at_call 78;refine (HO.out W hbW).mono ?_;rintro e w1 ⟨rfl,hb1⟩);go_ret2;exact ⟨hbW.trans (hb1.mono hbW.size),.inr ⟨HNO.out,.inl rfl⟩⟩
 | true =>
  have hpre:=pre_of hf hfa;rw [pairV_pr z hfa];have HO:=Hd (fun (X:World) (h:Below w.heap.size w X)=>open_any b.flr z.loc X (hb.pr.below h) hpre)
  have HFR:Hid (freeOk b↔(drvOk b.flr=true/\FreeF b.flr)):=⟨fun h=>h.2,fun h=>⟨hfa,h⟩⟩
  have HOK:=Hd (fun (hd:drvOk b.flr=true)=>hpre.ok hd)
  have hr:=hpre.r0;clear hb hf hfa hpre hr;generalize b.flr=f at *;generalize z.loc=y at *;unfold Flr.pr at *;obtain ⟨W,hW⟩:∃ W,w.alloc (.cells #[.int .i64 f.eye,.int .i64 f.R,.int .i64 f.S,.slice y.A1 f.bed.length y.c1,.int .i64 f.eye,.int .i64 f.R,.int .i64 f.S,.slice y.A2 f.run.length y.c2,.slice y.A3 f.drive.length y.c3] 27)=W:=⟨_,rfl⟩;have hbW:Below w.heap.size w W:=by rw [<- hW];exact Ba
  have X:=(show Bk W w.heap.size 27 #[.int .i64 f.eye,.int .i64 f.R,.int .i64 f.S,.slice y.A1 f.bed.length y.c1,.int .i64 f.eye,.int .i64 f.R,.int .i64 f.S,.slice y.A2 f.run.length y.c2,.slice y.A3 f.drive.length y.c3] by rw [<- hW];exact Aa rfl)
  have x0:=X.cell 0;have x1:=X.cell 1;have x2:=X.cell 2;have x3:=X.cell 3;have x4:=X.cell 4;have x5:=X.cell 5;have x6:=X.cell 6;have x7:=X.cell 7;have x8:=X.cell 8;simp at x0 x1 x2 x3 x4 x5 x6 x7 x8;have HW:=Hd hW;clear hW X;go_enter Tryz.func63,Tryz.ntmps63;go_upto_region 1 with fail
  rw [HW.out];clear HW;go_wp2_with fail;refine (HO.out W hbW).mono ?_;rintro e w1 ⟨hb1,⟨hd,g,hg,rfl,hfl⟩ | ⟨hd,rfl⟩⟩
  ·have HFL:=Hd hfl;have HD:=Hd hd;have hb1w:=hbW.trans (hb1.mono hbW.size);clear hd hfl HO hb1 x0 x1 x2 x3 x4 x5 x6 x7 x8;go_wp2_with (go_at_call 103;refine (entries_any g _).mono ?_;rintro e w2 ⟨rfl,k2,hb2⟩);have hb2w:=hb1w.trans (hb2.mono hb1w.size);have HE:=Hd (ends_any f y g w1.heap.size w2 (HFL.out.below hb2) (HOK.out HD.out) k2);clear hb1w hb2 k2;go_wp2_with fail;refine (HE.out).mono ?_;rintro e w3 ⟨hb3,⟨hfr,rfl⟩ | ⟨hfr,rfl⟩⟩
   ·have HFF:=Hd hfr;clear hfr;go_wp2_with fail;go_ret2;exact ⟨hb2w.trans (hb3.mono hb2w.size),.inl ⟨HFR.out.2 ⟨HD.out,HFF.out⟩,rfl⟩⟩
   ·have HFF:=Hd hfr;clear hfr;go_wp2_with fail;go_ret2;exact ⟨hb2w.trans (hb3.mono hb2w.size),.inr ⟨fun h=>HFF.out (HFR.out.1 h).2,.inr rfl⟩⟩
  ·have HD:=Hd hd;clear hd HO;go_wp2_with fail;go_ret2;exact ⟨hbW.trans (hb1.mono hbW.size),.inr ⟨(fun h=>by have h1:=(HFR.out.1 h).1;rw [HD.out] at h1;cases h1),.inl rfl⟩⟩
end Go.Proofs.YteihcodicfoiaaaGreat
