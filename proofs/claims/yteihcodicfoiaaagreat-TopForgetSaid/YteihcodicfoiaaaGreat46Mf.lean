/-
  What is proved: contracts and plain facts that TopForget stands on (LargeI, StoryB, StoriesN, WrF, WrG, WrT, WrN).
-/
import Derived.Test.YteihcodicfoiaaaGreat8Mf
import Derived.Test.YteihcodicfoiaaaGreatStoryNMf
import Derived.Test.YteihcodicfoiaaaGreat44Mf
import Derived.Test.YteihcodicfoiaaaGreat42Mf
import Derived.Deep.RegionLaw
import Derived.Deep.DeepCutAuto
import Derived.Test.YteihcodicfoiaaaGreatEvItMf
import Derived.Laws.EntriesVeiled
namespace Go.Proofs.YteihcodicfoiaaaGreat
set_option maxRecDepth 100000
set_option maxHeartbeats 16000000
open Go Go.RowKit
section
theorem large_ix  (A:Option Addr) (c n:Nat) (el:Nat->List Value) (bad:Nat->Bool) (w:World) (hrow:Hw w A 4 n el) (hn:n<=9223372036854775807)
  (hcall:∀ X,Below w.heap.size w X->∀ k,k<n->Calls Tryz.prog 47 (#[.agg (el k).toArray] ++ #[]) X fun e w'=>e=.returned (.bool (bad k))/\Below X.heap.size X w') :
  Calls Tryz.prog 91 #[.slice A n c,.func (.func 47) #[] #[]] w fun e w'=>e=.returned (.int .i64 (Cs bad n))/\Below w.heap.size w w':=by
 have HR:=Hd hrow;have HC:=Hd hcall;clear hrow hcall;have hB0:=Below.refl w.heap.size w;go_enter Tryz.func91,Tryz.ntmps91;go_wp2_with fail;go_loopw [8] (fun i wr=>∃ k:Nat,k<=n/\i=.int .i64 k/\Below w.heap.size w wr/\Hid (∀ j,j<k->bad j=false)) (fun i _=>n - (intOf i).toNat)
 case atStart=>exact ⟨0,Nat.zero_le _,rfl,hB0,fun j h=>absurd h (by omega)⟩
 case round =>
  obtain ⟨k,hk,rfl,hBr,hall⟩:=hrel;clear hB0
  by_cases hlt:k<n
  ·have hkI:(k:Int)<n:=by omega
   obtain ⟨b5,o5,hA,hb5,hc5⟩:=(HR.out.below hBr).2 (by omega)
   have hlen:=HR.out.1 k hlt;have HE:=Hd (HC.out wr hBr k hlt);obtain ⟨u0,u1,u2,u3,hel⟩:=list4_of hlen;have c0:wr.cell? ⟨b5,o5+k*4,none⟩=some u0:=by have:=hc5 k hlt 0 u0 (by rw [hel];rfl);simpa using this
   have c1:wr.cell? ⟨b5,o5+k*4+1,none⟩=some u1:=by have:=hc5 k hlt 1 u1 (by rw [hel];rfl);simpa using this
   have c2:wr.cell? ⟨b5,o5+k*4+2,none⟩=some u2:=by have:=hc5 k hlt 2 u2 (by rw [hel];rfl);simpa using this
   have c3:wr.cell? ⟨b5,o5+k*4+3,none⟩=some u3:=by have:=hc5 k hlt 3 u3 (by rw [hel];rfl);simpa using this
   rw [hel] at HE;change Hid (Calls Tryz.prog 47 #[.agg #[u0,u1,u2,u3]] wr _) at HE;have HF:Hid (bad k=true->Cs bad n=k):=fun h=>Es hlt hall.out h
   have HN:Hid (bad k=false->∀ j,j<k+1->bad j=false):=fun h=>Fq hall.out h
   rw [hA];clear hA hc5 hlen hel hall;cases hs:bad k
   ·rw [hs] at HE;have HN2:=Hd (HN.out hs);clear HN HF hs;go_wp2_with (go_at_call 47;refine HE.out.mono ?_;rintro e w1 ⟨rfl,hb1⟩);have hB1:=hBr.trans (hb1.mono hBr.size);go_roundw
    case rel=>exact ⟨k+1,by omega,by go_num,hB1,HN2⟩
    case measure=>simp [intOf];omega
   ·rw [hs] at HE;have HF2:=Hd (HF.out hs);clear HN HF hs;go_wp2_with (go_at_call 47;refine HE.out.mono ?_;rintro e w1 ⟨rfl,hb1⟩);go_ret;exact ⟨Cb HF2.out.symm,hBr.trans (hb1.mono hBr.size)⟩
  ·obtain rfl:k=n:=by omega
   have HF:=Hd (Ea hall.out);clear hall;go_wp2;go_ret;exact ⟨Cb HF.out.symm,hBr⟩
theorem large_has  (A:Option Addr) (c n:Nat) (el:Nat->List Value) (bad:Nat->Bool) (w:World) (hrow:Hw w A 4 n el) (hn:n<=9223372036854775807)
  (hcall:∀ X,Below w.heap.size w X->∀ k,k<n->Calls Tryz.prog 47 (#[.agg (el k).toArray] ++ #[]) X fun e w'=>e=.returned (.bool (bad k))/\Below X.heap.size X w') :
  Calls Tryz.prog 46 #[.slice A n c,.func (.func 47) #[] #[]] w fun e w'=>e=.returned (.bool (Fd bad n))/\Below w.heap.size w w':=by
 have HI:=Hd (large_ix  A c n el bad w hrow hn hcall);have HG:=Hd (Et bad n);clear hrow hcall;go_enter Tryz.func46,Tryz.ntmps46;go_wp2_with (go_at_call 91;refine HI.out.mono ?_;rintro e w1 ⟨rfl,hb1⟩);go_ret;exact ⟨Af HG.out,hb1⟩
end
section
attribute [local go_sem ↓] Cd Hp Dm Kg store_at70 Dh Bu builds_at118 buildT_run
theorem story_bad (st:Int) (hst:inB st 0 1=false) (b:Al) (z:Df) (H E:List EvD) (A1 A2 A3:Option Addr) (c1 c2 n3 c3:Nat) (w:World) (hb:Fa w b z) (hR:Hk b H E) (r1:Gg w A1 H) (r2:Gg w A2 E) :
  Calls Tryz.prog 18 #[.agg (b.arr z),Dv A1 H.length c1 A2 E.length c2 A3 n3 c3,.int .i64 st] w fun e V=>e=.returned (.tuple #[.agg #[.slice none 0 0,.slice none 0 0,.slice none 0 0,.slice none 0 0],.int .i64 1])/\Below w.heap.size w V:=by
 unfold Dv;obtain ⟨W,hW⟩:∃ W,((w.alloc (.cells (b.arr z) 41)).alloc (.cells #[.slice A1 H.length c1,.slice A2 E.length c2,.slice A3 n3 c3] 49)).alloc (.cells #[.slice none 0 0,.slice none 0 0,.slice none 0 0,.slice none 0 0] 55)=W:=⟨_,rfl⟩;have hbW:Below w.heap.size w W:=by rw [<- hW];exact (Ba.alloc (by simp) _).alloc (by simp;omega) _
 have X:Bk W w.heap.size 41 (b.arr z):=by rw [<- hW];exact ((Aa rfl).alloc _).alloc _
 have Y:Bk W (w.heap.size+1) 49 #[.slice A1 H.length c1,.slice A2 E.length c2,.slice A3 n3 c3]:=by rw [<- hW];exact (Aa (by simp)).alloc _
 have Z:Bk W (w.heap.size+1+1) 55 #[.slice none 0 0,.slice none 0 0,.slice none 0 0,.slice none 0 0]:=by rw [<- hW];exact Aa (by simp)
 have H1:=Hd (Ai X (Ai Y (Ai Z hbW)));have hfr:=fr_ok hR.chk;have hfew:=hR.few;have HFR:=Hd hfr;have HCK:=Hd (fun (X:World) (h:Below w.heap.size w X)=>(show Calls Tryz.prog 33 #[.agg (b.arr z)] X fun e w'=>e=.returned (.int .i64 0)/\Below X.heap.size X w' from (Gv b z X (hb.below h) hfew).mono fun e w' he=>by
  obtain ⟨h1,⟨_,h2⟩ | ⟨h2,_⟩⟩:=he
  ·exact ⟨h2,h1⟩
  ·exact absurd hR.chk h2))
 have HFO:=Hd (fun (X:World)=>frameOf_any b z X)
 have HRI:=Hd (fun (X:World) (h:Below w.heap.size w X)=>right_any b.fr hfr H E A1 A2 A3 c1 c2 n3 c3 X hR.right (r1.below h) (r2.below h) hR.st200)
 have HEV:=Hd (fun (X:World) (h:Below w.heap.size w X)=>Ai (r1.below h) (r2.below h))
 unfold Dv at HRI;have hpq:w.heap.size<w.heap.size+1/\w.heap.size+1<w.heap.size+1+1:=by omega
 have l41:=Ce X rfl;have l49:=Ct Y rfl;have HW:=Hd hW;clear hW X Y Z hbW hb hR r1 r2;go_enter Tryz.func18,Tryz.ntmps18;go_upto_region 1 with fail
 rw [HW.out];clear HW;have HCK1:=Hd (HCK.out W H1.out.2.2.2);have hpW:w.heap.size+1+1<W.heap.size:=H1.out.2.2.1.lt;generalize w.heap.size + 1 + 1=r at *;generalize w.heap.size + 1=q at *;clear HCK;go_upto_region 2 with (go_at_call 33;refine HCK1.out.mono ?_;rintro e w1 ⟨rfl,hb1⟩;have H2:=Hd (Ai (H1.out.1.keep hb1) (Ai (H1.out.2.1.keep hb1) (Ai (H1.out.2.2.1.keep hb1) (H1.out.2.2.2.trans (hb1.mono H1.out.2.2.2.size)))));have hs1:=hb1.size;clear hb1)
 clear H1 HCK1 l41 l49;have l41:=Ce H2.out.1 rfl;have HFO1:=Hd (HFO.out w1);go_upto_region 5 with (go_at_call 34;refine HFO1.out.mono ?_;rintro e w2 ⟨rfl,hb2⟩;unfold FrD.val;have hb3:Below w2.heap.size w2 (w2.alloc (.cells #[.int .i64 b.fr.rings,.int .i64 b.fr.sec,.int .i64 b.fr.wide] 112)):=Ba;have Q:Bk (w2.alloc (.cells #[.int .i64 b.fr.rings,.int .i64 b.fr.sec,.int .i64 b.fr.wide] 112)) w2.heap.size 112 #[.int .i64 b.fr.rings,.int .i64 b.fr.sec,.int .i64 b.fr.wide]:=Aa rfl;have H3:=Hd (Ai ((H2.out.1.keep hb2).keep hb3) (Ai ((H2.out.2.1.keep hb2).keep hb3) (Ai ((H2.out.2.2.1.keep hb2).keep hb3) (Ai ((H2.out.2.2.2.trans (hb2.mono H2.out.2.2.2.size)).trans (hb3.mono (H2.out.2.2.2.trans (hb2.mono H2.out.2.2.2.size)).size)) Q))));have hs2:=hb2.size;clear hb2 hb3 Q)
 clear H2 HFO1 l41 HFO;generalize w2.alloc _=V1 at *;have hs3:w2.heap.size<V1.heap.size:=H3.out.2.2.2.2.lt;generalize w2.heap.size=q9 at *;have l49:=Ct H3.out.2.1 rfl;have f0:=H3.out.2.2.2.2.cell 0;have f1:=H3.out.2.2.2.2.cell 1;have f2:=H3.out.2.2.2.2.cell 2;simp at f0 f1 f2;have HRI1:=Hd (HRI.out V1 H3.out.2.2.2.1);unfold FrD.val at HRI1;go_upto_region 6 with (first | (go_at_call 35;refine HRI1.out.mono ?_;rintro e w3 ⟨rfl,hb3⟩;have H4:=Hd (Ai (H3.out.1.keep hb3) (Ai (H3.out.2.1.keep hb3) (Ai (H3.out.2.2.1.keep hb3) (Ai (H3.out.2.2.2.1.trans (hb3.mono H3.out.2.2.2.1.size)) (H3.out.2.2.2.2.keep hb3)))));have hs4:=hb3.size;clear hb3) | (go_at_call 36;refine (Bm _ _ _ _).mono ?_;rintro e _ ⟨rfl,rfl⟩;rw [hst]))
 clear H3 HRI1 l49 f0 f1 f2 HRI;have T:=H4.out.2.2.1;have r0:=T.fz 0;have r1:=T.fz 1;have r2:=T.fz 2;have r3:=T.fz 3;have u0:=T.cell 0;have u1:=T.cell 1;have u2:=T.cell 2;have u3:=T.cell 3;have rl:=T.lt;simp at u0 u1 u2 u3;have HT:=Hd T;clear T;have hrw:w.heap.size<=r:=by omega
 go_wp2_with fail;have T2:=(((HT.out.put 0 (.slice none 0 0)).put 1 (.slice none 0 0)).put 2 (.slice none 0 0)).put 3 (.slice none 0 0);have hB:=((((H4.out.2.2.2.1.setCell (p:=⟨r,0,none⟩) hrw (.slice none 0 0)).setCell (p:=⟨r,1,none⟩) hrw (.slice none 0 0)).setCell (p:=⟨r,2,none⟩) hrw (.slice none 0 0)).setCell (p:=⟨r,3,none⟩) hrw (.slice none 0 0));refine bodyPost_ret (v:=.tuple #[.agg #[.slice none 0 0,.slice none 0 0,.slice none 0 0,.slice none 0 0],.int .i64 1]) (Hm (fn:=Tryz.f18) (p:=6) (q:=7) rfl rfl T2 rfl Tryz.underlying55 (by kernel_rfl)) rfl ?_
 exact ⟨rfl,hB⟩
end
section
attribute [local go_sem ↓] Hp Dm Bu
theorem stories_bad (st:Int) (hst:inB st 0 1=false) (b:Al) (z:Df) (H E:List EvD) (A1 A2 A3:Option Addr) (c1 c2 n3 c3:Nat) (AS:Option Addr) (cS:Nat) (w:World) (hb:Fa w b z) (hR:Hk b H E) (r1:Gg w A1 H) (r2:Gg w A2 E) (hS:Ad w AS (Ac [st])) :
  Calls Tryz.prog 20 #[.agg (b.arr z),Dv A1 H.length c1 A2 E.length c2 A3 n3 c3,.slice AS 1 cS] w fun e V=>e=.returned (.tuple #[.slice none 0 0,.int .i64 1])/\Below w.heap.size w V:=by
 have HST:=Hd (fun (X:World) (h:Below w.heap.size w X)=>story_bad st hst b z H E A1 A2 A3 c1 c2 n3 c3 X (hb.below h) hR (r1.below h) (r2.below h))
 have HCK:=Hd (fun (X:World) (h:Below w.heap.size w X)=>(show Calls Tryz.prog 33 #[.agg (b.arr z)] X fun e w'=>e=.returned (.int .i64 0)/\Below X.heap.size X w' from (Gv b z X (hb.below h) hR.few).mono fun e w' he=>by
  obtain ⟨h1,⟨_,h2⟩ | ⟨h2,_⟩⟩:=he
  ·exact ⟨h2,h1⟩
  ·exact absurd hR.chk h2))
 unfold Dv at *;obtain ⟨W,hW⟩:∃ W,(w.alloc (.cells (b.arr z) 41)).alloc (.cells #[.slice A1 H.length c1,.slice A2 E.length c2,.slice A3 n3 c3] 49)=W:=⟨_,rfl⟩;have hbW:Below w.heap.size w W:=by rw [<- hW];exact Ba.alloc (by simp) _
 have X:Bk W w.heap.size 41 (b.arr z):=by rw [<- hW];exact (Aa rfl).alloc _
 have Y:Bk W (w.heap.size+1) 49 #[.slice A1 H.length c1,.slice A2 E.length c2,.slice A3 n3 c3]:=by rw [<- hW];exact Aa (by simp)
 have H1:=Hd (Ai X (Ai Y hbW));have HW:=Hd hW;have HSL:=Hd (fun (X:World) (h:Below w.heap.size w X)=>hS.below h)
 have l41:=Ce X rfl;clear hW X Y hbW hb hR r1 r2 hS;go_enter Tryz.func20,Tryz.ntmps20;go_upto_region 1 with fail
 rw [HW.out];clear HW;have HCK1:=Hd (HCK.out W H1.out.2.2);clear HCK;go_upto_region 5 with (go_at_call 33;refine HCK1.out.mono ?_;rintro e w1 ⟨rfl,hb1⟩)
 have H2:=Hd (Ai (H1.out.1.keep hb1) (Ai (H1.out.2.1.keep hb1) (H1.out.2.2.trans (hb1.mono H1.out.2.2.size))));clear H1 HCK1 l41 hb1;go_upto_region 6 with fail
 have HI:=H2;go_loopw [21] (fun i wr=>i=.int .i64 0/\Hid (Bk wr w.heap.size 41 (b.arr z)/\Bk wr (w.heap.size+1) 49 #[.slice A1 H.length c1,.slice A2 E.length c2,.slice A3 n3 c3]/\Below w.heap.size w wr)) (fun i _=>1 - (intOf i).toNat)
 case atStart=>exact ⟨rfl,H2⟩
 case round =>
  clear H2 HI;obtain ⟨rfl,HI⟩:=hrel;have l41:=Ce HI.out.1 rfl;have l49:=Ct HI.out.2.1 rfl;have HS:=Hd (HST.out wr HI.out.2.2);obtain ⟨bS,oS,rfl,hbS,hcS⟩:=HSL.out wr HI.out.2.2 (by simp [Ac])
  have cS0:=hcS 0 (.int .i64 st) rfl;simp at cS0;clear hcS;go_wp2_with (go_at_call 18;refine HS.out.mono ?_;rintro e w3 ⟨rfl,hb3⟩);exact bodyPost_ret (v:=.tuple #[.slice none 0 0,.int .i64 1]) (by simp [results,Tryz.results20,go_sem]) rfl ⟨rfl,HI.out.2.2.trans ((hb3.alloc hb3.size _).mono HI.out.2.2.size)⟩
theorem info55:(Tryz.prog.info? 55).map (fun i=>(i.zero,i.size,i.bytes))=some (some (.agg #[.slice none 0 0,.slice none 0 0,.slice none 0 0,.slice none 0 0]),4,96):=by kernel_rfl
theorem anyB_one (f:Nat->Bool):Fd f 1=f 0:=by
 cases h:f 0 with
 | false=>exact Fu.2 fun k hk=>by rw [show k=0 by omega,h]
 | true =>
  cases h2:Fd f 1 with
  | true=>rfl
  | false=>rw [Fu.1 h2 0 (by omega)] at h;cases h
def StoriesQ (b:Al) (st:Int) (H E:List EvD) (w:World) (e:Ending) (V:World):Prop :=
 Below w.heap.size w V/\∃ D:Ap,D.At V/\TellD b st (ixS st) H E D/\((D.good=true/\∃ g c,e=.returned (.tuple #[.slice (some ⟨g,0,none⟩) 1 c,.int .i64 0])/\Ad V (some ⟨g,0,none⟩) D.arr.toList)\/(D.good=false/\e=.returned (.tuple #[.slice none 0 0,.int .i64 2])))
theorem stories_any (st:Int) (hst:st=0\/st=1) (b:Al) (z:Df) (H E:List EvD) (A1 A2 A3:Option Addr) (c1 c2 n3 c3:Nat) (AS:Option Addr) (cS:Nat) (w:World) (hb:Fa w b z) (hR:Hk b H E) (r1:Gg w A1 H) (r2:Gg w A2 E) (hS:Ad w AS (Ac [st])) :
  Calls Tryz.prog 20 #[.agg (b.arr z),Dv A1 H.length c1 A2 E.length c2 A3 n3 c3,.slice AS 1 cS] w (StoriesQ b st H E w):=by
 have HST:=Hd (fun (X:World) (h:Below w.heap.size w X)=>story_any st hst b z H E A1 A2 A3 c1 c2 n3 c3 X (hb.below h) hR (r1.below h) (r2.below h))
 have HOK:=Hd (fun (D:Ap) (h:TellD b st (ixS st) H E D)=>hR.ok h.start h.hp h.sr)
 have HCK:=Hd (fun (X:World) (h:Below w.heap.size w X)=>(show Calls Tryz.prog 33 #[.agg (b.arr z)] X fun e w'=>e=.returned (.int .i64 0)/\Below X.heap.size X w' from (Gv b z X (hb.below h) hR.few).mono fun e w' he=>by
  obtain ⟨h1,⟨_,h2⟩ | ⟨h2,_⟩⟩:=he
  ·exact ⟨h2,h1⟩
  ·exact absurd hR.chk h2))
 unfold Dv at *;obtain ⟨W,hW⟩:∃ W,(w.alloc (.cells (b.arr z) 41)).alloc (.cells #[.slice A1 H.length c1,.slice A2 E.length c2,.slice A3 n3 c3] 49)=W:=⟨_,rfl⟩;have hbW:Below w.heap.size w W:=by rw [<- hW];exact Ba.alloc (by simp) _
 have X:Bk W w.heap.size 41 (b.arr z):=by rw [<- hW];exact (Aa rfl).alloc _
 have Y:Bk W (w.heap.size+1) 49 #[.slice A1 H.length c1,.slice A2 E.length c2,.slice A3 n3 c3]:=by rw [<- hW];exact Aa (by simp)
 have H1:=Hd (Ai X (Ai Y hbW));have HW:=Hd hW;have HSL:=Hd (fun (X:World) (h:Below w.heap.size w X)=>hS.below h)
 have l41:=Ce X rfl;clear hW X Y hbW hb hR r1 r2 hS;go_enter Tryz.func20,Tryz.ntmps20;go_upto_region 1 with fail
 rw [HW.out];clear HW;have HCK1:=Hd (HCK.out W H1.out.2.2);clear HCK;go_upto_region 5 with (go_at_call 33;refine HCK1.out.mono ?_;rintro e w1 ⟨rfl,hb1⟩)
 have H2:=Hd (Ai (H1.out.1.keep hb1) (Ai (H1.out.2.1.keep hb1) (H1.out.2.2.trans (hb1.mono H1.out.2.2.size))));clear H1 HCK1 l41 hb1;go_upto_region 6 with fail
 go_loopw [9,21] (fun v9 i wr=>(i=.int .i64 0/\v9=.slice none 0 0/\Hid (Bk wr w.heap.size 41 (b.arr z)/\Bk wr (w.heap.size+1) 49 #[.slice A1 H.length c1,.slice A2 E.length c2,.slice A3 n3 c3]/\Below w.heap.size w wr))\/(i=.int .i64 1/\∃ (D:Ap) (g c:Nat),v9=.slice (some ⟨g,0,none⟩) 1 c/\Hid (Below w.heap.size w wr/\D.At wr/\TellD b st (ixS st) H E D/\Ad wr (some ⟨g,0,none⟩) D.arr.toList))) (fun _ i _=>1 - (intOf i).toNat)
 case atStart=>exact .inl ⟨rfl,rfl,H2⟩
 case round =>
  clear H2;rcases hrel with ⟨rfl,rfl,HI⟩ | ⟨rfl,D,g,c,rfl,HI⟩
  ·have l41:=Ce HI.out.1 rfl;have l49:=Ct HI.out.2.1 rfl;have HS:=Hd (HST.out wr HI.out.2.2);obtain ⟨bS,oS,rfl,hbS,hcS⟩:=HSL.out wr HI.out.2.2 (by simp [Ac])
   have cS0:=hcS 0 (.int .i64 st) rfl;simp at cS0;clear hcS;go_upto_region 11 with (go_at_call 18;refine HS.out.mono ?_;rintro e w3 ⟨hb3,D,rfl,hD,hT⟩;have HD:=Hd (Ai hb3 (Ai hD hT));clear hb3 hD hT;unfold Ap.arr)
   have hb4:Below w3.heap.size w3 (w3.alloc (.cells #[.slice D.A1 D.st.length D.c1,.slice D.A2 D.hp.length D.c2,.slice D.A3 D.S.length D.c3,.slice D.A4 D.R.length D.c4] 55)):=Ba;have Q:Bk (w3.alloc (.cells #[.slice D.A1 D.st.length D.c1,.slice D.A2 D.hp.length D.c2,.slice D.A3 D.S.length D.c3,.slice D.A4 D.R.length D.c4] 55)) w3.heap.size 55 #[.slice D.A1 D.st.length D.c1,.slice D.A2 D.hp.length D.c2,.slice D.A3 D.S.length D.c3,.slice D.A4 D.R.length D.c4]:=Aa rfl;have HD4:=Hd (Ai (HI.out.2.2.trans ((HD.out.1.trans (hb4.mono HD.out.1.size)).mono HI.out.2.2.size)) (Ai (HD.out.2.1.below hb4) HD.out.2.2));clear HD hb4 l41 l49 HS;generalize w3.alloc _=V at *;generalize w3.heap.size=q8 at *;have d0:=Q.cell 0;have d1:=Q.cell 1;have d2:=Q.cell 2;have d3:=Q.cell 3;have dl:=Q.lt;simp at d0 d1 d2 d3;clear Q;obtain ⟨i0,hi0,hz0,hz1,hz2⟩:=info_parts info55;have hbx:Below V.heap.size V (V.alloc (.cells #[.slice D.A1 D.st.length D.c1,.slice D.A2 D.hp.length D.c2,.slice D.A3 D.S.length D.c3,.slice D.A4 D.R.length D.c4] 55)):=Ba;have HBX:=Hd hbx;clear hbx;go_wp2_with (at_builtin;refine wpList_append_own _ rfl _ _ 95 rfl (V.alloc (.cells #[.slice D.A1 D.st.length D.c1,.slice D.A2 D.hp.length D.c2,.slice D.A3 D.S.length D.c3,.slice D.A4 D.R.length D.c4] 55)).heap.size 55 i0 _ 4 96 Tryz.underlying95 hi0 hz0 hz1 hz2 rfl (by decide) (.slice none 0 0) 0 [] rfl (World.ownsRow_nil _ _ _ _) ⟨V.heap.size,0,none⟩ 1 1 [.slice D.A1 D.st.length D.c1,.slice D.A2 D.hp.length D.c2,.slice D.A3 D.S.length D.c3,.slice D.A4 D.R.length D.c4] rfl rfl (Gb (Aa rfl)) (by simp [Value.oneCell']) (by unfold maxLen;omega) (by omega) Le ?_;intro v6 w6 hown6 hg6 _;obtain ⟨g6,c6,rfl,hg6b,hrow6⟩:=own_row hown6 (by omega);have HE6:=Hd (Ai (show Ad w6 (some ⟨g6,0,none⟩) [.slice D.A1 D.st.length D.c1,.slice D.A2 D.hp.length D.c2,.slice D.A3 D.S.length D.c3,.slice D.A4 D.R.length D.c4] from fun _=>⟨g6,0,rfl,hrow6.1,hrow6.2⟩) (show Below V.heap.size V w6 from HBX.out.trans ⟨hg6.os,hg6.tape,hg6.output,hg6.size,fun k hk=>hg6.block k (Nat.lt_of_lt_of_le hk HBX.out.size) (by intro h;cases h)⟩));clear hown6 hg6 hrow6 hg6b hi0 hz0 hz1 hz2)
   go_roundw
   case rel=>exact .inr ⟨rfl,D,g6,c6,rfl,HD4.out.1.trans (HE6.out.2.mono HD4.out.1.size),HD4.out.2.1.below HE6.out.2,HD4.out.2.2,HE6.out.1⟩
   case measure=>simp [intOf]
  ·have HL:=Hd (large_has (some ⟨g,0,none⟩) c 1 (fun k=>([D].getD k D).arr.toList) (fun _=>!D.good) wr (Hw.of_row (fun D:Ap=>D.arr.toList) (fun _=>rfl) (by omega) (l:=[D]) D (by simpa using HI.out.2.2.2)) (by omega) (fun X hX k hk=>by
    obtain rfl:k=0:=by omega
    exact large_any D X (HI.out.2.1.below hX) (HOK.out D HI.out.2.2.1)))
   rw [anyB_one] at HL;cases hg:D.good with
   | true =>
    rw [hg] at HL;go_wp2_with (go_at_call 46;refine HL.out.mono ?_;rintro e w9 ⟨rfl,hb9⟩);refine bodyPost_ret (v:=.tuple #[.slice (some ⟨g,0,none⟩) 1 c,.int .i64 0]) (by simp [results,Tryz.results20,go_sem]) rfl ?_
    exact ⟨HI.out.1.trans (hb9.mono HI.out.1.size),D,HI.out.2.1.below hb9,HI.out.2.2.1,.inl ⟨hg,g,c,rfl,HI.out.2.2.2.below hb9⟩⟩
   | false =>
    rw [hg] at HL;go_wp2_with (go_at_call 46;refine HL.out.mono ?_;rintro e w9 ⟨rfl,hb9⟩);refine bodyPost_ret (v:=.tuple #[.slice none 0 0,.int .i64 2]) (by simp [results,Tryz.results20,go_sem]) rfl ?_
    exact ⟨HI.out.1.trans (hb9.mono HI.out.1.size),D,HI.out.2.1.below hb9,HI.out.2.2.1,.inr ⟨hg,rfl⟩⟩
end
section
theorem falls_any (s:Bh) (n nh c:Nat) (A:Option Addr) (cW:Nat) (wd:List Int) (w:World) (hs:StepOk n nh s) (hc:c<n) (hw:wd.length=nh) (hwd:∀ i,0<=wd.getD i 0/\wd.getD i 0<=255)
  (ht:Ad w s.tA (Ac s.times)) (hA:Ad w A (Ac wd)) (hn:n<=24) :
  Calls Tryz.prog 221 #[.agg s.cells.toArray,.int .i64 c,.slice A wd.length cW] w fun e w'=>e=.returned (.agg #[.int .i64 (Ef s c wd).1,.int .i64 (Ef s c wd).2])/\Below w.heap.size w w':=by
 obtain rfl:nh=wd.length:=hw.symm;clear hw;obtain ⟨W,hW⟩:∃ W,(w.alloc (.cells s.cells.toArray 62)).alloc (.cells #[.int .i64 0,.int .i64 0] 29)=W:=⟨_,rfl⟩;have hbW:Below w.heap.size w W:=by rw [<- hW];exact Ba.alloc (by simp) _
 have X:Bk W w.heap.size 62 s.cells.toArray:=by rw [<- hW];exact (Aa rfl).alloc _
 have Y:Bk W (w.heap.size+1) 29 #[.int .i64 0,.int .i64 0]:=by rw [<- hW];exact Aa (by simp)
 obtain rfl:n=s.times.length:=hs.len.symm;have hcI:(c:Int)<s.times.length:=by omega
 obtain ⟨b5,o5,hA5,hb5,hc5⟩:=Jb (ht.below hbW) (by omega)
 have hx:=hc5 c (by omega)
 have HT0:0<=s.times.getD c 0/\s.times.getD c 0<=10000000:=by
  have hm:=Cg (0:Int) (show c<s.times.length by omega)
  rcases hs.kind with ⟨_,_,_,h⟩ | ⟨_,_,_,h⟩
  ·exact h _ hm
  ·have:=h _ hm;omega
 have HF:Hid (Ef s c wd=if s.kind=1 then (s.times.getD c 0*wd.getD s.heap.toNat 0,s.times.getD c 0*wd.getD s.heap.toNat 0) else (s.times.getD c 0*s.dlo,s.times.getD c 0*s.dhi)):=rfl
 generalize s.times.getD c 0=t at *;have x0:=X.cell 0;have x1:=X.cell 1;have x2:=X.cell 2;have x3:=X.cell 3;have x4:=X.cell 4;have xl:=X.lt;have y0:=Y.cell 0;have y1:=Y.cell 1;have z0:=Y.fz 0;have z1:=Y.fz 1;have yl:=Y.lt;simp [Bh.cells] at x0 x1 x2 x3 x4;simp at y0 y1;have HW:=Hd hW;have HY:=Hd (Ai Y hbW);rw [hA5] at x2;unfold Bh.cells at HW ⊢;rw [hA5] at HW ⊢;rcases hs.kind with ⟨hk,hh,-,-⟩ | ⟨hk,-,hd,-⟩
 ·obtain ⟨b6,o6,hA6,hb6,hc6⟩:=Jb (hA.below hbW) (by omega)
  obtain ⟨j,hj⟩:∃ j:Nat,s.heap=j:=⟨s.heap.toNat,by omega⟩
  have hjI:(j:Int)<wd.length:=by omega
  have hy:=hc6 j (by omega)
  have h3:=hwd j;rw [hj] at HF x1 HW ⊢;rw [Int.toNat_natCast,if_pos hk] at HF;rw [hk] at x0 HW ⊢;generalize wd.getD j 0=u at *;have hm:0<=t*u/\t*u<=10000000*255:=⟨Int.mul_nonneg HT0.1 h3.1,Int.mul_le_mul HT0.2 h3.2 h3.1 (by omega)⟩
  rw [hA6];rw [HF.out];clear hW X Y hbW hs ht hA hwd HF hA5 hc5 hA6 hc6 hj;go_enter Tryz.func221,Tryz.ntmps221;go_upto_region 1 with fail
  rw [HW.out];clear HW;go_upto_region 3 with fail
  have D:=HY.out.1.drew;have v0:=D.cell 0;have v1:=D.cell 1;have v2:=D.fz 0;have v3:=D.fz 1;have v4:=D.lt;simp at v0 v1;clear D;go_region_law (fail)
  all_goals
   clear y0 y1 z0 z1 yl v0 v1 v2 v3 v4;go_wp2_with fail;have hwr:IntKind.i64.wrap (t*u)=t*u:=IntWalk.i64_in (t*u) ⟨by omega,by omega⟩
   rw [hwr];have R:=((HY.out.1.put 0 (.int .i64 (t*u))).put 1 (.int .i64 (t*u))).drew;refine bodyPost_ret (v:=.agg #[.int .i64 (t*u),.int .i64 (t*u)]) (results_cell_row rfl _ _ _ 29 _ (0,0) _ rfl R Tryz.underlying29 rfl (by kernel_rfl)) rfl ?_
   exact ⟨rfl,((HY.out.2.setCell (p:=⟨w.heap.size+1,0,none⟩) (by simp) _).setCell (p:=⟨w.heap.size+1,1,none⟩) (by simp) _).drew⟩
 ·have hk1:¬ s.kind=1:=by omega
  rw [if_neg hk1] at HF;rw [hk] at x0 HW ⊢;have hm1:0<=t*s.dlo/\t*s.dlo<=10000000*100000:=⟨Int.mul_nonneg HT0.1 hd.1,Int.mul_le_mul HT0.2 (by omega) hd.1 (by omega)⟩
  have hm2:0<=t*s.dhi/\t*s.dhi<=10000000*100000:=⟨Int.mul_nonneg HT0.1 (by omega),Int.mul_le_mul HT0.2 (by omega) (by omega) (by omega)⟩
  rw [HF.out];clear hW X Y hbW hs ht hA hwd HF hA5 hc5;go_enter Tryz.func221,Tryz.ntmps221;go_upto_region 1 with fail
  rw [HW.out];clear HW;go_wp2_with fail;have R:=(HY.out.1.put 0 (.int .i64 (t*s.dlo))).put 1 (.int .i64 (t*s.dhi));refine bodyPost_ret (v:=.agg #[.int .i64 (t*s.dlo),.int .i64 (t*s.dhi)]) (results_cell_row rfl _ _ _ 29 _ (0,0) _ rfl R Tryz.underlying29 rfl (by kernel_rfl)) rfl ?_
  exact ⟨rfl,(HY.out.2.setCell (p:=⟨w.heap.size+1,0,none⟩) (by simp) _).setCell (p:=⟨w.heap.size+1,1,none⟩) (by simp) _⟩
end
section
attribute [local go_sem] Oper.semAt_some
theorem roomB (k:Nat):Fence.wide.room k:=fun d h=>by simp [Fence.wide] at h
theorem roundB {m m':Nat} {P:Program} {l:Nat} {f:FuncId} {tmps:Array Value} {assign body:Code} {w:World} {R:Ending->World->Prop}
  (h:RoundIn Fence.wide m P l f tmps assign body w R):RoundIn Fence.wide m' P l f tmps assign body w R:=⟨h.1,fun c cs _=>h.2 c cs (roomB _)⟩
def KpB (n₀:Nat) (W W':World):Prop:=Below n₀ W W'/\∀ (k:Nat) (cs:Array Value) (t:TypeId) (r:Nat×Nat),t=352\/t=141\/t=62->W.heap[k]?=some (.cells cs t r)->W'.heap[k]?=some (.cells cs t r)
theorem KpB.trans {n₀:Nat} {A B C:World} (h:KpB n₀ A B) (k:KpB n₀ B C):KpB n₀ A C:=⟨h.1.trans k.1,fun j cs t r ht hj=>k.2 j cs t r ht (h.2 j cs t r ht hj)⟩
theorem KpB.bk {n₀:Nat} {W W':World} {q:Nat} {t:TypeId} {cs:Array Value} (h:KpB n₀ W W') (ht:t=352\/t=141\/t=62) (hb:Bk W q t cs):Bk W' q t cs:=h.2 q cs t (0,0) ht hb
theorem KpB.of_below {n₀:Nat} {W W':World} (h:Below W.heap.size W W') (hn:n₀<=W.heap.size):KpB n₀ W W' :=
 ⟨h.mono hn,fun k cs t r _ hk=>(h.block k (Array.getElem?_eq_some_iff.1 hk).1).trans hk⟩
def encB (b:Ao):Array Value:=#[.agg b.cells.toArray]
def YieldB (l m n₀:Nat) (J Jx:List Ao->World->Prop):Prop:=∀ pre x W1,J pre W1->pre.length<1000->YieldAt Fence.wide m Tryz.prog l (encB x) W1 fun e W' =>
 (e=.returned (.bool true)/\J (pre ++ [x]) W'/\KpB n₀ W1 W')\/(e=.returned (.bool false)/\Jx (pre ++ [x]) W')
def BothP (n₀:Nat) (J Jx:List Ao->World->Prop) (pre L:List Ao) (W:World) (e:Ending) (W':World):Prop :=
 (e=.returned (.bool true)/\J (pre ++ L) W'/\KpB n₀ W W')\/(e=.returned (.bool false)/\∃ p,Jx p W')
theorem both_in (n m l y n₀ B:Nat) (J Jx:List Ao->World->Prop) (hJ:AbidesFrom B J) (hY:YieldB l m n₀ J Jx) (a z:Int×Int) (most back kind id:Int) (pre:List Ao) (W:World) (hn:n₀<=W.heap.size)
  (hy:Bk W y 352 #[.func (.yield l) #[] #[]]) (h0:J pre W) (hlen:pre.length+1<1000) :
  CallsIn Fence.wide n Tryz.prog 220 #[.agg #[.int .i64 a.1,.int .i64 a.2],.agg #[.int .i64 z.1,.int .i64 z.2],.int .i64 most,.int .i64 back,.int .i64 kind,.int .i64 id,.pointer (some ⟨y,0,none⟩)] W (BothP n₀ J Jx pre (Ey a z most back kind id) W):=by
 obtain ⟨a1,a2⟩:=a;obtain ⟨z1,z2⟩:=z;obtain ⟨V,hV⟩:∃ V,(W.alloc (.cells #[.int .i64 a1,.int .i64 a2] 141)).alloc (.cells #[.int .i64 z1,.int .i64 z2] 141)=V:=⟨_,rfl⟩;have hbV:Below W.heap.size W V:=by rw [<- hV];exact Ba.alloc (by simp) _
 have X:Bk V W.heap.size 141 #[.int .i64 a1,.int .i64 a2]:=by rw [<- hV];exact (Aa rfl).alloc _
 have Z:Bk V (W.heap.size+1) 141 #[.int .i64 z1,.int .i64 z2]:=by rw [<- hV];exact Aa (by simp)
 have Y:=hy.keep hbV;have hJV:J pre V:=hJ _ W V none h0 (Hh hbV) (fun r e=>by cases e)
 have HV:=Hd hV;have HK:=Hd (Ai X (Ai Z (Ai Y (KpB.of_below hbV hn))));have hL:Hid (∀ p:List Ao,p ++ Ey (a1,a2) (z1,z2) most back kind id=p ++ [⟨(a1,a2),(z1,z2),most,kind,id⟩] ++ [⟨(z1,z2),(a1,a2),back,kind,id⟩]):=Hd (fun p=>by simp [Ey])
 obtain ⟨fn,tmps,assign,body,hy1,hR1⟩:=hY _ ⟨(a1,a2),(z1,z2),most,kind,id⟩ V hJV (by omega)
 have hR1:=Hd hR1;have x0:=X.cell 0;have x1:=X.cell 1;have z0:=Z.cell 0;have z1':=Z.cell 1;have y0:=Y.cell 0;simp at x0 x1 z0 z1' y0;simp [encB,Ao.cells] at hy1;clear hV X Z Y hJV h0 hy hbV;refine callsIn_of_wp Tryz.func220 rfl trivial ?_ rfl;simp only [Tryz.ntmps220,List.size_toArray,List.length_cons,List.length_nil,Nat.reduceAdd,Nat.reduceSub,Array.replicate_succ,Array.replicate_zero,List.push_toArray,List.append_toArray,List.nil_append,List.cons_append];refine wpIn_wide.2 ?_;go_upto_region 1 with fail
 rw [HV.out];clear HV;refine (wpIn_wide (n:=n)).1 ?_;gi_wp2;refine ⟨fun h=>(by simp [Fence.wide] at h),(roundB hR1.out).mono ?_⟩
 rintro e W1 (⟨rfl,hJ1,hk1⟩ | ⟨rfl,hJx1⟩)
 ·have X:=hk1.bk (.inr (.inl rfl)) HK.out.1;have Z:=hk1.bk (.inr (.inl rfl)) HK.out.2.1;have Y:=hk1.bk (.inl rfl) HK.out.2.2.1;obtain ⟨fn2,tmps2,assign2,body2,hy2,hR2⟩:=hY _ ⟨(z1,z2),(a1,a2),back,kind,id⟩ W1 hJ1 (by simp;omega)
  have hR2:=Hd hR2;have HK1:=Hd hk1;clear x0 x1 z0 z1' y0 hy1;have x0:=X.cell 0;have x1:=X.cell 1;have z0:=Z.cell 0;have z1':=Z.cell 1;have y0:=Y.cell 0;simp at x0 x1 z0 z1' y0;simp [encB,Ao.cells] at hy2;clear X Z Y hk1 hR1 hJ1 hY hJ;gi_wp2;refine ⟨fun h=>(by simp [Fence.wide] at h),(roundB hR2.out).mono ?_⟩
  rintro e W2 (⟨rfl,hJ2,hk2⟩ | ⟨rfl,hJx2⟩)
  ·have HE:=Hd (show BothP n₀ J Jx pre (Ey (a1,a2) (z1,z2) most back kind id) W (.returned (.bool true)) W2 from .inl ⟨rfl,by rw [hL.out];exact hJ2,HK.out.2.2.2.trans (HK1.out.trans hk2)⟩)
   clear hJ2 hk2 x0 x1 z0 z1' y0 hy2;gi_wp2;go_wp2_with fail;go_ret;exact HE.out
  ·have HE:=Hd (show BothP n₀ J Jx pre (Ey (a1,a2) (z1,z2) most back kind id) W (.returned (.bool false)) W2 from .inr ⟨rfl,_,hJx2⟩)
   clear hJx2 x0 x1 z0 z1' y0 hy2;gi_wp2;go_wp2_with fail;go_ret;exact HE.out
 ·have HE:=Hd (show BothP n₀ J Jx pre (Ey (a1,a2) (z1,z2) most back kind id) W (.returned (.bool false)) W1 from .inr ⟨rfl,_,hJx1⟩)
  clear hJx1 x0 x1 z0 z1' y0 hy1;gi_wp2;refine ⟨fun f h=>(by cases h),?_⟩
  gi_wp2;go_wp2_with fail;go_ret;exact HE.out
end
section
def LessI (s t:List Bh×List Da):Prop:=t.1=s.1/\∀ r∈t.2,r∈s.2
theorem LessI.step (b:Al) (st:Int) (cnt:List Int) (H:List EvD) {s t:List Bh×List Da} (h:LessI s t) (n:Ab):LessI (Fh b st cnt H s n) (Fh b st cnt H t n):=by
 obtain ⟨h1,h2⟩:=h;unfold Fh LessI
 split
 ·exact ⟨h1,h2⟩
 ·split
  ·exact ⟨by simp [h1],h2⟩
  ·split
   ·exact ⟨by simp [h1],h2⟩
   ·refine ⟨h1,fun r hr=>?_⟩
    simp only [h1,List.mem_append,List.mem_singleton] at hr ⊢;rcases hr with hr | hr
    ·exact .inl (h2 r hr)
    ·exact .inr hr
theorem less_fold (b:Al) (st:Int) (cnt:List Int) (H:List EvD):∀ (E:List EvD) (s t:List Bh×List Da),LessI s t->LessI (E.foldl (fun s e=>Fh b st cnt H s e.note) s) (E.foldl (fun s e=>Fh b st cnt H s e.note) t)
 | [],_,_,h=>h
 | e :: E,s,t,h=>less_fold b st cnt H E _ _ (h.step b st cnt H e.note)
theorem less_one (b:Al) (st:Int) (cnt:List Int) (H:List EvD):∀ (E:List EvD) (i:Nat) (hi:i<E.length) (_:(E[i]).note.kind=3) (s:List Bh×List Da),LessI (E.foldl (fun s e=>Fh b st cnt H s e.note) s) ((E.eraseIdx i).foldl (fun s e=>Fh b st cnt H s e.note) s)
 | [],i,hi,_,_=>absurd hi (by simp)
 | e :: E,0,_,hk,s=>by
  simp only [List.eraseIdx_cons_zero,List.foldl_cons];have hk:e.note.kind=3:=hk;refine less_fold b st cnt H E _ _ ?_;unfold Fh LessI;rw [hk]
  split
  ·exact ⟨rfl,fun r hr=>hr⟩
  ·rw [if_neg (by omega),if_neg (by omega)]
   exact ⟨rfl,fun r hr=>by simp [hr]⟩
 | e :: E,i+1,hi,hk,s=>by
  simp only [List.eraseIdx_cons_succ,List.foldl_cons];exact less_one b st cnt H E i (by simpa using hi) (by simpa using hk) _
theorem toldF_less (b:Al) (st:Int) (cnt:List Int) (H E:List EvD) (i:Nat) (hi:i<E.length) (hk:(E[i]).note.kind=3):LessI (Hr b st cnt H E) (Hr b st cnt H (E.eraseIdx i)):=less_one b st cnt H E i hi hk _
theorem plain_steps {S T:List Bh} (h:S.map Bh.plain=T.map Bh.plain):S.map (fun s=>(s.kind,s.heap,s.times,s.dlo,s.dhi))=T.map (fun s=>(s.kind,s.heap,s.times,s.dlo,s.dhi)):=by
 have:=congrArg (List.map fun s:Bh=>(s.kind,s.heap,s.times,s.dlo,s.dhi)) h
 simp only [List.map_map] at this;exact this
structure SameD (D E:Ap):Prop where
 st:E.st=D.st
 hp:E.hp=D.hp
 S:E.S.map (fun s=>(s.kind,s.heap,s.times,s.dlo,s.dhi))=D.S.map (fun s=>(s.kind,s.heap,s.times,s.dlo,s.dhi))
 R:E.R=D.R
theorem SameD.len {D E:Ap} (h:SameD D E):E.S.length=D.S.length:=by have:=congrArg List.length h.S;simpa using this
theorem SameD.bounds {D E:Ap} (h:SameD D E) (wd:List Int):Ae E wd=Ae D wd:=by
 unfold Ae;rw [base_same h.st h.S,h.R]
theorem SameD.good {D E:Ap} (h:SameD D E):E.good=D.good:=by
 have key:∀ S:List Bh,S.all Ku=(S.map (fun s=>(s.kind,s.heap,s.times,s.dlo,s.dhi))).all fun q=>q.1 == 2 || q.2.2.1.all fun t=>inB t 0 1000000:=fun S=>by
  rw [List.all_map];rfl
 unfold Ap.good;rw [key,key,h.S]
theorem SameD.living {D E:Ap} (h:SameD D E):Bb E=Bb D:=by
 unfold Bb;rw [h.hp];refine List.filter_congr fun w _=>?_
 unfold Kh;rw [h.bounds]
theorem SameD.heights {D E:Ap} (h:SameD D E) (t:Int):Cr E t=Cr D t:=by
 unfold Cr;rw [h.living,h.st];have:∀ w p,Ec E w p=Ec D w p:=fun w p=>by unfold Ec;rw [h.bounds]
 simp only [this]
theorem TellD.same {b:Al} {st:Int} {ixF:Flr->Nat->Nat->Nat->Nat} {H E:List EvD} {D D':Ap} (h:TellD b st ixF H E D) (h':TellD b st ixF H E D'):SameD D D':=by
 have h1:=h'.sr.trans h.sr.symm;injection h1 with h1 h2
 exact ⟨h'.start.trans h.start.symm,h'.hp.trans h.hp.symm,plain_steps h1,h2⟩
structure LessD (D E:Ap):Prop where
 st:E.st=D.st
 hp:E.hp=D.hp
 S:E.S.map (fun s=>(s.kind,s.heap,s.times,s.dlo,s.dhi))=D.S.map (fun s=>(s.kind,s.heap,s.times,s.dlo,s.dhi))
 R:∀ r∈E.R,r∈D.R
theorem TellD.less {b:Al} {st:Int} {ixF:Flr->Nat->Nat->Nat->Nat} {H E:List EvD} {D D':Ap} {i:Nat} (h:TellD b st ixF H E D) (hi:i<E.length) (hk:(E[i]).note.kind=3) (h':TellD b st ixF H (E.eraseIdx i) D'):LessD D D':=by
 obtain ⟨h1,h2⟩:=toldF_less b st (cntOf b.flr ixF) H E i hi hk;rw [<- h.sr,<- h'.sr] at h1 h2;exact ⟨h'.start.trans h.start.symm,h'.hp.trans h.hp.symm,plain_steps h1,h2⟩
theorem heights_len (D:Ap) (t:Int):(Cr D t).length=D.st.length:=by simp [Cr]
theorem heights_get (D:Ap) (t:Int) {c:Nat} (hc:c<D.st.length):(Cr D t).getD c (0,0)=overF ((Bb D).map fun w=>Ec D w ((c:Int),t)):=by
 unfold Cr;rw [List.getD_eq_getElem?_getD,List.getElem?_map,List.getElem?_range hc];rfl
theorem LessD.law {D E:Ap} (h:LessD D E) (hD:D.Ok) (hE:E.Ok) (hg:D.good=true) (hl:Bb D≠[]):E.good=true/\Bb E≠[]/\E.S.length=D.S.length/\∀ c,c<D.st.length->((Cr E E.S.length).getD c (0,0)).1<=((Cr D D.S.length).getD c (0,0)).1/\((Cr D D.S.length).getD c (0,0)).2<=((Cr E E.S.length).getD c (0,0)).2:=by
 have hlen:E.S.length=D.S.length:=by have:=congrArg List.length h.S;simpa using this
 obtain ⟨h1,h2⟩:=heights_less hD hE h.st h.hp h.S h.R hg hl;refine ⟨by rw [good_less hD hE h.st h.S h.R];exact hg,h1,hlen,fun c hc=>?_⟩
 have hp:Gl D ((c:Int),(D.S.length:Int)):=.inr (by simp;omega)
 have:=h2 c D.S.length hp;rw [heights_get D _ hc,heights_get E _ (by rw [h.st];exact hc),hlen]
 exact this
end
section
open BF
def Lo (n:Nat) (M:Int) (c:Nat) (t:BF.St):Prop:=∀ v,v<n -> -(c*M)<=t.d.getD v 0
theorem Lo.mono {n c c':Nat} {M:Int} {t:BF.St} (h:Lo n M c t) (hM:0<=M) (hc:c<=c'):Lo n M c' t:=fun v hv=>by
 have h1:=h v hv;have h2:(c:Int)*M<=c'*M:=Int.mul_le_mul_of_nonneg_right (by omega) hM
 omega
theorem Lo.step {es:List BF.Ed} {s n c i:Nat} {M far:Int} {t:BF.St} (h:Lo n M c t) (hi:BF.Inv es s n far t) {e:BF.Ed} (hn:e.a<n/\e.z<n) (hm:-M<=e.m) (hM:0<=M):Lo n M (c+1) (BF.relax1 far i e t):=by
 have h1:=h.mono hM (Nat.le_succ c);unfold BF.relax1
 split
 ·exact h1
 ·intro v hv
  show _<=(t.d.set e.z (t.d.getD e.a 0+e.m)).getD v 0
  rw [BF.getD_set _ _ _ _ (by rw [hi.dl];exact hn.2)]
  split
  ·have h2:=h e.a hn.1;have h3:((c+1:Nat):Int)*M=c*M+M:=by rw [Int.natCast_add,Int.add_mul];simp
   omega
  ·exact h1 v hv
theorem relax1_ch (far:Int) (i:Nat) (e:BF.Ed) (t:BF.St) (h:t.ch=true):(BF.relax1 far i e t).ch=true:=by
 unfold BF.relax1
 split
 ·exact h
 ·rfl
theorem passK_succ {far:Int} {es:List BF.Ed} {k:Nat} {e:BF.Ed} (he:es[k]?=some e) (t:BF.St):BF.passK far es (k+1) t=BF.relax1 far k e (BF.passK far es k t):=by
 simp only [BF.passK,he]
theorem passK_ch {far:Int} {es:List BF.Ed} {t:BF.St} {k:Nat} (h:(BF.passK far es k t).ch=true):∀ j,k<=j->(BF.passK far es j t).ch=true
 | 0,hj=>by
  obtain rfl:k=0:=by omega
  exact h
 | j+1,hj=>by
  by_cases hk:k=j+1
  ·subst hk;exact h
  ·have ih:=passK_ch h j (by omega)
   simp only [BF.passK]
   split
   ·exact relax1_ch _ _ _ _ ih
   ·exact ih
theorem passK_lo {es:List BF.Ed} {s n c:Nat} {M far:Int} {t:BF.St} (hn:∀ e∈es,e.a<n/\e.z<n) (hm:∀ e∈es,-M<=e.m) (hM:0<=M) (h:Lo n M c t) (hi:BF.Inv es s n far t):∀ k,Lo n M (c+k) (BF.passK far es k t)
 | 0=>h
 | k+1=>by
  have ih:=passK_lo hn hm hM h hi k;simp only [BF.passK]
  split
  ·rename_i e he;exact ih.step (hi.passK hn k) (hn _ (List.mem_of_getElem? he)) (hm _ (List.mem_of_getElem? he)) hM
  ·exact ih.mono hM (by omega)
structure RelW (es:List BF.Ed) (s n:Nat) (M far:Int) (r:Nat) (t:BF.St) (R:Option BF.St):Prop where
 inv:BF.Inv es s n far t
 lo:Lo n M (r*es.length) t
 made:BF.Made es s r t
 rle:r<=n+1
 fuel:BF.rounds far es (n+2 - r) t=R
structure RelG (es:List BF.Ed) (s n:Nat) (M far:Int):Prop where
 hn:∀ e∈es,e.a<n/\e.z<n
 hM:∀ e∈es,-M<=e.m/\e.m<=M
 hM0:0<=M
 far:((n+2:Nat):Int)*M<far
section
variable {es:List BF.Ed} {s n r:Nat} {M far:Int} {t:BF.St} {R:Option BF.St}
theorem RelG.lt (g:RelG es s n M far) (hr:r<=n+1):(r*M:Int)<far:=by
 have h1:(r:Int)*M<=((n+2:Nat):Int)*M:=Int.mul_le_mul_of_nonneg_right (by omega) g.hM0
 have:=g.far;omega
theorem RelW.next (g:RelG es s n M far) (h:RelW es s n M far r t R) (hr:r<=n) (hc:(BF.passK far es es.length ⟨t.d,t.p,false⟩).ch=true) :
  RelW es s n M far (r+1) (BF.passK far es es.length ⟨t.d,t.p,false⟩) R:=by
 have h1:Lo n M (r*es.length) ⟨t.d,t.p,false⟩:=h.lo;refine ⟨(h.inv.flag false).passK g.hn _,?_,h.made.pass g.hn g.hM g.hM0 (g.lt h.rle) h.inv,by omega,?_⟩
 ·have:=passK_lo g.hn (fun e he=>(g.hM e he).1) g.hM0 h1 (h.inv.flag false) es.length
  rw [Nat.add_mul,Nat.one_mul];exact this
 ·have hf:=h.fuel;rw [show n+2 - r=(n+2 - (r+1))+1 by omega] at hf
  simp only [BF.rounds] at hf;rw [if_pos (by unfold BF.pass;exact hc)] at hf
  exact hf
theorem RelW.done (h:RelW es s n M far r t R) (hc:(BF.passK far es es.length ⟨t.d,t.p,false⟩).ch=false):R=some (BF.passK far es es.length ⟨t.d,t.p,false⟩):=by
 have hf:=h.fuel;have hr:=h.rle;rw [show n+2 - r=(n+1 - r)+1 by omega] at hf
 simp only [BF.rounds] at hf;rw [if_neg (by unfold BF.pass;rw [hc];simp)] at hf
 exact hf.symm
theorem RelW.loop (h:RelW es s n M far r t R) (hr:n<r) {k:Nat} (hk:k<=es.length) (hc:(BF.passK far es k ⟨t.d,t.p,false⟩).ch=true):R=none:=by
 have hf:=h.fuel;have hr1:=h.rle;obtain rfl:r=n+1:=by omega
 rw [show n+2 - (n+1)=0+1 by omega] at hf
 simp only [BF.rounds] at hf;rw [if_pos (by unfold BF.pass;exact passK_ch hc _ hk)] at hf
 exact hf.symm
theorem RelW.mid (g:RelG es s n M far) (h:RelW es s n M far r t R) (k:Nat) (hk:k<=es.length):BF.Inv es s n far (BF.passK far es k ⟨t.d,t.p,false⟩)/\∀ v,v<n -> -(((n+2)*es.length:Nat)*M)<=(BF.passK far es k ⟨t.d,t.p,false⟩).d.getD v 0/\(BF.passK far es k ⟨t.d,t.p,false⟩).d.getD v 0<=far:=by
 have h1:Lo n M (r*es.length) ⟨t.d,t.p,false⟩:=h.lo;have hi:=(h.inv.flag false).passK g.hn k;have h2:=(passK_lo g.hn (fun e he=>(g.hM e he).1) g.hM0 h1 (h.inv.flag false) k).mono (c':=(n+2)*es.length) g.hM0 (by
  have hr:=h.rle;have:r*es.length<=(n+1)*es.length:=Nat.mul_le_mul_right _ hr;rw [show n+2=(n+1)+1 by omega,Nat.add_mul (n+1)]
  omega)
 exact ⟨hi,fun v hv=>⟨h2 v hv,hi.top v hv⟩⟩
theorem RelW.back (g:RelG es s n M far) (h:RelW es s n M far r t R) (hr:n<r) {k:Nat} {e:BF.Ed} (he:es[k]?=some e)
  (hf:(BF.passK far es k ⟨t.d,t.p,false⟩).d.getD e.a 0≠far) (hlt:(BF.passK far es k ⟨t.d,t.p,false⟩).d.getD e.a 0+e.m<(BF.passK far es k ⟨t.d,t.p,false⟩).d.getD e.z 0) :
  (∀ j,BF.back es (BF.passK far es (k+1) ⟨t.d,t.p,false⟩) e.z j<n/\(BF.passK far es (k+1) ⟨t.d,t.p,false⟩).p.getD (BF.back es (BF.passK far es (k+1) ⟨t.d,t.p,false⟩) e.z j) 0 ≠ -1)/\
   ∃ p,1<=p/\p<=n/\BF.back es (BF.passK far es (k+1) ⟨t.d,t.p,false⟩) e.z (n+1+p)=BF.back es (BF.passK far es (k+1) ⟨t.d,t.p,false⟩) e.z (n+1):=by
 have hz:=(g.hn e (List.mem_of_getElem? he)).2;have hi:=(h.inv.flag false).passK g.hn k;have hi1:=(h.inv.flag false).passK g.hn (k+1);have hu:(BF.passK far es (k+1) ⟨t.d,t.p,false⟩).d.getD e.z 0<t.d.getD e.z 0:=by
  rw [passK_succ he];have h1:=BF.passK_le g.hn (h.inv.flag false) k e.z;unfold BF.relax1;rw [if_neg (by intro hc;rcases hc with hc | hc;exact hf hc;omega)]
  show ((BF.passK far es k ⟨t.d,t.p,false⟩).d.set e.z _).getD e.z 0<_
  rw [BF.getD_set _ _ _ _ (by rw [hi.dl];exact hz),if_pos rfl]
  simp only at h1;omega
 have htop:=h.inv.top _ hz;have hev:=BF.back_ever g.hn hi1 h.made (by omega) hz hu htop
 have hf1:(BF.passK far es (k+1) ⟨t.d,t.p,false⟩).d.getD e.z 0≠far:=by omega
 exact ⟨fun j=>⟨(BF.back_lt g.hn hi1 hz hf1 j (fun i _=>hev i)).1,hev j⟩,BF.back_again g.hn hi1 hz hf1 hev⟩
end
theorem par_of {es:List BF.Ed} {s n:Nat} {far:Int} {t:BF.St} (h:BF.Inv es s n far t) {v:Nat} (hv:v<n) (hp:t.p.getD v 0 ≠ -1):∃ i:Nat,i<es.length/\t.p.getD v 0=i/\BF.par es t v=(es.getD i ⟨0,0,0⟩).a:=by
 rcases h.par v hv with ⟨g,_⟩ | ⟨i,e,g1,g2,_⟩
 ·exact absurd g hp
 ·refine ⟨i,(List.getElem?_eq_some_iff.1 g1).1,g2,?_⟩;unfold BF.par;rw [g2,List.getD_eq_getElem?_getD];simp
theorem relG_of {D:Ap} (hD:D.Ok) (hg:D.good=true) {wd:List Int} (hw:∀ i,0<=wd.getD i 0/\wd.getD i 0<=255) (turned:Bool):RelG (Hy (An (Ae D wd)) turned (Ae D wd)) (ixN (An (Ae D wd)) gnd) (An (Ae D wd)).length 1000000000 Di:=by
 have hn:=nm_len hD wd;refine ⟨eds_lt hD wd turned,eds_M hD wd hg hw turned,by omega,?_⟩
 unfold Di;omega
theorem relW_init {D:Ap} (hD:D.Ok) (wd:List Int) (turned:Bool):RelW (Hy (An (Ae D wd)) turned (Ae D wd)) (ixN (An (Ae D wd)) gnd) (An (Ae D wd)).length 1000000000 Di 0 (initF (An (Ae D wd))) (relF (An (Ae D wd)) turned (Ae D wd)):=by
 refine ⟨Jq hD wd turned,?_,init_made hD wd turned,by omega,rfl⟩
 intro v hv;rw [init_get _ v (gnd_lt hD wd) hv]
 split<;>simp [Di]
end
end Go.Proofs.YteihcodicfoiaaaGreat
