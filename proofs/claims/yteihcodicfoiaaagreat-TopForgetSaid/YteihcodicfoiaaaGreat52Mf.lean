/-
  What is proved: contracts and plain facts that TopForget stands on (WrS, WrU, WrV, WrX, WrY, WrZ, ForgP, ForgQ, SetWay, ForgR, ForgS, ForgU).
-/
import Derived.Test.YteihcodicfoiaaaGreatWrRMf
import Derived.Deep.RegionWith
import Derived.Test.YteihcodicfoiaaaGreatWrWMf
import Derived.Test.YteihcodicfoiaaaGreat46Mf
import Derived.Test.YteihcodicfoiaaaGreat0Mf
import Derived.Deep.Quiet
import Derived.StillTail
import Derived.Tactics2
import Derived.Test.YteihcodicfoiaaaGreatFoldMf
import Derived.Test.YteihcodicfoiaaaGreatConcatMf
import Derived.Test.YteihcodicfoiaaaGreatSetFMf
namespace Go.Proofs.YteihcodicfoiaaaGreat
set_option maxRecDepth 100000
set_option maxHeartbeats 8000000
open Go Go.RowKit
section
structure SolAt (D:Ap) (wd:List Int) (q:Nat) (V:World):Prop where
 lives:Kh D wd=true
 ex:∃ (A:Option Addr) (c n:Nat) (r1 r2:Nat) (u v:BF.St),Bk V q 215 #[.slice A n c,.pointer (some ⟨r1,0,none⟩),.pointer (some ⟨r2,0,none⟩),.func (.func 148) #[.pointer (some ⟨r1,0,none⟩)] #[],.func (.func 148) #[.pointer (some ⟨r2,0,none⟩)] #[]] /\
  relF (An (Ae D wd)) false (Ae D wd)=some u/\RchAt V r1 (An (Ae D wd)) u.d/\relF (An (Ae D wd)) true (Ae D wd)=some v/\RchAt V r2 (An (Ae D wd)) v.d
theorem SolAt.below {D:Ap} {wd:List Int} {q:Nat} {V V':World} (h:SolAt D wd q V) (hb:Below V.heap.size V V'):SolAt D wd q V':=by
 obtain ⟨A,c,n,r1,r2,u,v,h1,h2,h3,h4,h5⟩:=h.ex;exact ⟨h.lives,A,c,n,r1,r2,u,v,h1.keep hb,h2,h3.below hb,h4,h5.below hb⟩
def SolveP (D:Ap) (wd:List Int) (w:World) (e:Ending) (V:World):Prop :=
 Below w.heap.size w V/\((Kh D wd=true/\∃ q,w.heap.size<=q/\e=.returned (.tuple #[.pointer (some ⟨q,0,none⟩),.slice none 0 0])/\SolAt D wd q V)\/(Kh D wd=false/\∃ g n c:Nat,1<=n/\e=.returned (.tuple #[.pointer none,.slice (some ⟨g,0,none⟩) n c])))
theorem solve_any (D:Ap) (hD:D.Ok) (hg:D.good=true) (wd:List Int) (hwl:wd.length=D.hp.length) (hwr:∀ i,0<=wd.getD i 0/\wd.getD i 0<=255) (A:Option Addr) (cA:Nat) (w:World) (hAt:D.At w) (hA:Ad w A (Ac wd)) :
  Calls Tryz.prog 95 #[.agg D.arr,.slice A wd.length cA] w (SolveP D wd w):=by
 obtain ⟨W,hW⟩:∃ W,w.alloc (.cells D.arr 55)=W:=⟨_,rfl⟩;have hbW:Below w.heap.size w W:=by rw [<- hW];exact Ba
 have X:Bk W w.heap.size 55 D.arr:=by rw [<- hW];exact Aa rfl
 have HGR:=Hd (show Calls Tryz.prog 145 #[.agg #[.slice D.A1 D.st.length D.c1,.slice D.A2 D.hp.length D.c2,.slice D.A3 D.S.length D.c3,.slice D.A4 D.R.length D.c4],.slice A wd.length cA] W (GraphP D wd W) from graph_any D hD wd hwl hwr A cA W (hAt.below hbW) (hA.below hbW))
 have HRX:=Hd (fun (turned:Bool) (g:Nat) (X:World) (h:GrAt X g (An (Ae D wd)) (Ae D wd))=>relax_any D hD hg wd hwr turned g X h)
 have HDN:=Hd (fun (u:BF.St) (h:relF (An (Ae D wd)) false (Ae D wd)=some u)=>rel_down hD wd hg hwr h)
 have HLV:Hid (Kh D wd=(relF (An (Ae D wd)) false (Ae D wd)).isSome):=rfl;have x0:=X.cell 0;have x1:=X.cell 1;have x2:=X.cell 2;have x3:=X.cell 3;simp [Ap.arr] at x0 x1 x2 x3;have HW:=Hd hW;have HBW:=Hd hbW;clear hW hbW X hAt hA hD hg hwl hwr;unfold Ap.arr at *;go_enter Tryz.func95,Tryz.ntmps95;go_upto_region 1 with fail
 rw [HW.out];clear HW;go_upto_region 2 with (go_at_call 145;refine HGR.out.mono ?_;rintro e w1 ⟨hb1,g,rfl,hG⟩;have H1:=Hd (Ai hb1 hG);clear hb1 hG)
 clear x0 x1 x2 x3;have hnn:=fun (W:World) (a:Addr) (k c:Nat)=>run_neq_slice_nil_any (P:=Tryz.prog) W 208 319 (some a) k c 0 0 Tryz.underlying208
 have hns:=fun (W:World)=>run_neq_slice_nil_any (P:=Tryz.prog) W 208 319 none 0 0 0 0 Tryz.underlying208
 go_upto_region 3 with (first | (go_at_call 147;refine (ground_any _).mono ?_;rintro e w2 ⟨rfl,hb2⟩;have H2:=Hd hb2;clear hb2) | (go_at_call 146;refine (HRX.out false g w2 (H1.out.2.below H2.out)).mono ?_;rintro e w3 ⟨hb3,hr3⟩;have H3:=Hd hb3;clear hb3;rcases hr3 with ⟨u,r1,hu,rfl,hR1⟩ | ⟨hu,g7,n7,c7,hn7,rfl⟩))
 ·have HU:=Hd (Ai hu hR1);clear hu hR1;have hB3:Below W.heap.size W w3:=Bc (Bc H1.out.1 H2.out) H3.out;obtain ⟨v,hv⟩:=HDN.out u HU.out.1;have HV:=Hd hv;have HB3:=Hd hB3;have HG3:=Hd ((H1.out.2.below H2.out).below H3.out);clear hv hB3;go_wp2_with (first | (go_at_call 147;refine (ground_any _).mono ?_;rintro e w4 ⟨rfl,hb4⟩;have H4:=Hd hb4;clear hb4) | (go_at_call 146;refine (HRX.out true g w4 (HG3.out.below H4.out)).mono ?_;rintro e w5 ⟨hb5,hr5⟩;have H5:=Hd hb5;clear hb5;rcases hr5 with ⟨v',r2,hv',rfl,hR2⟩ | ⟨hv',g7,n7,c7,hn7,rfl⟩))
  ·have HE:Hid (SolveP D wd w (.returned (.tuple #[.pointer (some ⟨w5.heap.size,0,none⟩),.slice none 0 0])) (w5.alloc (.cells #[.slice A wd.length cA,.pointer (some ⟨r1,0,none⟩),.pointer (some ⟨r2,0,none⟩),.func (.func 148) #[.pointer (some ⟨r1,0,none⟩)] #[],.func (.func 148) #[.pointer (some ⟨r2,0,none⟩)] #[]] 215))):=Hd (by
    have hb35:Below w3.heap.size w3 w5:=Bc H4.out H5.out;have hbx:Below w5.heap.size w5 (w5.alloc (.cells #[.slice A wd.length cA,.pointer (some ⟨r1,0,none⟩),.pointer (some ⟨r2,0,none⟩),.func (.func 148) #[.pointer (some ⟨r1,0,none⟩)] #[],.func (.func 148) #[.pointer (some ⟨r2,0,none⟩)] #[]] 215)):=Ba;have hB5:=Bc (Bc HBW.out (Bc HB3.out hb35)) hbx;have hz:=(Bc HBW.out (Bc HB3.out hb35)).size;exact ⟨hB5,.inl ⟨by rw [HLV.out,HU.out.1];rfl,_,hz,rfl,⟨by rw [HLV.out,HU.out.1];rfl,A,cA,wd.length,r1,r2,u,v',Aa rfl,HU.out.1,(HU.out.2.below hb35).below hbx,hv',hR2.below hbx⟩⟩⟩)
   clear hv' hR2;go_ret2;exact HE.out
  ·exact absurd (HV.out.symm.trans hv') (by simp)
 ·have HE:Hid (SolveP D wd w (.returned (.tuple #[.pointer none,.slice (some ⟨g7,0,none⟩) n7 c7])) w3):=Hd ⟨Bc HBW.out (Bc (Bc H1.out.1 H2.out) H3.out),.inr ⟨by rw [HLV.out,hu];rfl,g7,n7,c7,hn7,rfl⟩⟩
  clear hu;go_wp2_with fail;go_ret2;exact HE.out
theorem rounds_lo {es:List BF.Ed} {s n:Nat} {M far:Int} (hn:∀ e∈es,e.a<n/\e.z<n) (hm:∀ e∈es,-M<=e.m) (hM:0<=M):∀ (f c:Nat) (t u:BF.St),BF.Inv es s n far t->Lo n M c t->BF.rounds far es f t=some u->Lo n M (c+f*es.length) u
 | 0,_,_,_,_,_,h=>by cases h
 | f+1,c,t,u,hi,hl,h=>by
  have hl0:Lo n M c ⟨t.d,t.p,false⟩:=hl;have hp:=passK_lo hn hm hM hl0 (hi.flag false) es.length;have hip:=hi.pass hn;simp only [BF.rounds] at h
  split at h
  ·have:=rounds_lo hn hm hM f (c+es.length) _ u hip hp h;rw [show c+(f+1)*es.length=c+es.length+f*es.length by rw [Nat.add_mul];omega]
   exact this
  ·injection h with h
   subst h;exact Lo.mono hp hM (by rw [Nat.add_mul];omega)
theorem rel_bd {D:Ap} (hD:D.Ok) (hg:D.good=true) {wd:List Int} (hw:∀ i,0<=wd.getD i 0/\wd.getD i 0<=255) {turned:Bool} {u:BF.St} (hu:relF (An (Ae D wd)) turned (Ae D wd)=some u) :
  u.d.length=(An (Ae D wd)).length/\∀ v,v<(An (Ae D wd)).length -> -1000000000000000<=u.d.getD v 0/\u.d.getD v 0<=4611686018427387904:=by
 have hi:=Jq hD wd turned;have h0:=relW_init hD wd turned;have hl:=rounds_lo (eds_lt hD wd turned) (fun e he=>(eds_M hD wd hg hw turned e he).1) (by omega) _ 0 _ u hi (by simpa using h0.lo) hu
 have hv:=(BF.rounds_inv (eds_lt hD wd turned) hi hu).1;refine ⟨hv.dl,fun v hvn=>?_⟩
 have h1:=hl v hvn;have h2:=hv.top v hvn;have h3:(Hy (An (Ae D wd)) turned (Ae D wd)).length<=600:=by simpa [Hy] using bounds_len hD wd
 have h4:=(nm_len hD wd).2;have h5:((An (Ae D wd)).length+2)*(Hy (An (Ae D wd)) turned (Ae D wd)).length<=1202*600:=Nat.mul_le_mul (by omega) h3
 unfold Di at h2;generalize ((An (Ae D wd)).length + 2) * (Hy (An (Ae D wd)) turned (Ae D wd)).length=m at *;rw [Nat.zero_add] at h1;omega
end
section
theorem span_any (D:Ap) (hD:D.Ok) (hg:D.good=true) (wd:List Int) (hwr:∀ i,0<=wd.getD i 0/\wd.getD i 0<=255) (q:Nat) (p:Int×Int) (hp:Gl D p) (w:World) (hS:SolAt D wd q w) :
  Calls Tryz.prog 52 #[.pointer (some ⟨q,0,none⟩),.agg #[.int .i64 p.1,.int .i64 p.2]] w fun e w'=>e=.returned (.agg #[.int .i64 (Ec D wd p).1,.int .i64 (Ec D wd p).2])/\Below w.heap.size w w':=by
 obtain ⟨A,c,n,r1,r2,u,v,h1,h2,h3,h4,h5⟩:=hS.ex;have hb1:=rel_bd hD hg hwr h2;have hb2:=rel_bd hD hg hwr h4;have hpn:=(Ho hD wd p).2 hp;have hix:=ixN_lt hpn;have hnd:(An (Ae D wd)).Nodup:=names_nodup _ _ List.nodup_nil;have hnm:=nm_len hD wd;have HW1:Hid ((Ec D wd p).1 = -(v.d.getD (ixN (An (Ae D wd)) p) 0)/\(Ec D wd p).2=u.d.getD (ixN (An (Ae D wd)) p) 0):=Hd (by unfold Ec;rw [h2,h4];exact ⟨rfl,rfl⟩)
 rw [HW1.out.1,HW1.out.2];have HO1:=Hd (fun (X:World) (h:Below w.heap.size w X)=>of_any r1 _ u.d p X (h3.below h) hnd hpn hb1.1 (by omega))
 have HO2:=Hd (fun (X:World) (h:Below w.heap.size w X)=>of_any r2 _ v.d p X (h5.below h) hnd hpn hb2.1 (by omega))
 have hx1:=hb1.2 _ hix;have hx2:=hb2.2 _ hix;generalize u.d.getD (ixN (An (Ae D wd)) p) 0=hi at *;generalize v.d.getD (ixN (An (Ae D wd)) p) 0=lo at *;obtain ⟨p1,p2⟩:=p;obtain ⟨W,hW⟩:∃ W,(w.alloc (.cells #[.int .i64 p1,.int .i64 p2] 141)).alloc (.cells #[.int .i64 0,.int .i64 0] 29)=W:=⟨_,rfl⟩;have hbW:Below w.heap.size w W:=by rw [<- hW];exact Ba.alloc (by simp) _
 have X:Bk W w.heap.size 141 #[.int .i64 p1,.int .i64 p2]:=by rw [<- hW];exact (Aa rfl).alloc _
 have Z:Bk W (w.heap.size+1) 29 #[.int .i64 0,.int .i64 0]:=by rw [<- hW];exact Aa (by simp)
 have F1:=fun x:Ext W=>(show x.w.cell? ⟨q,3,none⟩=some (.func (.func 148) #[.pointer (some ⟨r1,0,none⟩)] #[]) from (((h1.keep hbW).keep x.bel).cell 3).trans rfl)
 have F2:=fun x:Ext W=>(show x.w.cell? ⟨q,4,none⟩=some (.func (.func 148) #[.pointer (some ⟨r2,0,none⟩)] #[]) from (((h1.keep hbW).keep x.bel).cell 4).trans rfl)
 have F3:=fun x:Ext W=>(show x.w.cell? ⟨w.heap.size,0,none⟩=some (.int .i64 p1) from ((X.keep x.bel).cell 0).trans rfl)
 have F4:=fun x:Ext W=>(show x.w.cell? ⟨w.heap.size,1,none⟩=some (.int .i64 p2) from ((X.keep x.bel).cell 1).trans rfl)
 have C1:=Hd (fun x:Ext W=>HO1.out x.w (hbW.trans (x.bel.mono hbW.size)))
 have C2:=Hd (fun x:Ext W=>HO2.out x.w (hbW.trans (x.bel.mono hbW.size)))
 have HZ:=Hd (Ai Z hbW);have HW:=Hd hW;clear hW hbW X Z h1 h2 h3 h4 h5 hb1 hb2 hpn hix hnd hnm hS hp HO1 HO2 HW1 hD hg hwr
 dsimp only at *
 go_enter Tryz.func52,Tryz.ntmps52;go_upto_region 1 with fail
 rw [HW.out];clear HW;refine By 14 (by kernel_rfl) (by kernel_rfl) (fun _ _ d _ _ h=>by cases d<;>exact h) ?_
 simp only [List.take_succ_cons,List.take_zero,List.drop_succ_cons,List.drop_zero];iterate 5 go_big_quiet_step (fail)
 go_big_quiet_step ((go_at_call 148;exact Cj (C2.out _)));iterate 6 go_big_quiet_step (fail)
 go_big_quiet_step ((go_at_call 148;exact Cj (C1.out _)));go_big_quiet_step (fail);refine wpQuiet_nil ?_;rintro _ ⟨y,rfl⟩;have hb2:=y.bel;generalize y.w=w2 at hb2 ⊢;clear F1 F2 F3 F4 C1 C2;have Z:=HZ.out.1.keep hb2;have hB2:=Bc HZ.out.2 hb2;have z0:=Z.cell 0;have z1:=Z.cell 1;have k0:=Z.fz 0;have k1:=Z.fz 1;have kl:=Z.lt;simp at z0 z1;have R:Bk ((w2.setCell ⟨w.heap.size+1,0,none⟩ (.int .i64 (-lo))).setCell ⟨w.heap.size+1,1,none⟩ (.int .i64 hi)) (w.heap.size+1) 29 _:=(Z.put 0 (.int .i64 (-lo))).put 1 (.int .i64 hi);have hB:=(hB2.setCell (p:=⟨w.heap.size+1,0,none⟩) (by simp) (.int .i64 (-lo))).setCell (p:=⟨w.heap.size+1,1,none⟩) (by simp) (.int .i64 hi)
 clear HZ Z hB2;go_wp2_with fail;refine bodyPost_ret (v:=.agg #[.int .i64 (-lo),.int .i64 hi]) (results_cell_row rfl _ _ _ 29 _ (0,0) _ rfl R Tryz.underlying29 rfl (by kernel_rfl)) rfl ?_
 exact ⟨rfl,hB⟩
theorem heights1_any (D:Ap) (hD:D.Ok) (hg:D.good=true) (wd:List Int) (hwr:∀ i,0<=wd.getD i 0/\wd.getD i 0<=255) (q b1 b2:Nat) (p:Int×Int) (hp:Gl D p) (w:World) (hS:SolAt D wd q w) (hc1:Bk w b1 3 #[.int .i64 p.1]) (hc2:Bk w b2 3 #[.int .i64 p.2]) :
  Calls Tryz.prog 51 #[.pointer (some ⟨q,0,none⟩),.pointer (some ⟨b1,0,none⟩),.pointer (some ⟨b2,0,none⟩)] w fun e w'=>e=.returned (.agg #[.int .i64 (Ec D wd p).1,.int .i64 (Ec D wd p).2])/\Below w.heap.size w w':=by
 obtain ⟨W,hW⟩:∃ W,w.alloc (.cells #[.int .i64 0,.int .i64 0] 29)=W:=⟨_,rfl⟩;have hbW:Below w.heap.size w W:=by rw [<- hW];exact Ba
 have Z:Bk W w.heap.size 29 #[.int .i64 0,.int .i64 0]:=by rw [<- hW];exact Aa rfl
 have HC:=Hd (span_any D hD hg wd hwr q p hp W (hS.below hbW));obtain ⟨p1,p2⟩:=p;generalize Ec D wd (p1,p2)=sp at *;obtain ⟨s1,s2⟩:=sp;have x1:=(hc1.keep hbW).cell 0;have x2:=(hc2.keep hbW).cell 0;simp at x1 x2;have HW:=Hd hW;have HZ:=Hd (Ai Z hbW);clear hW hbW Z hc1 hc2 hS hp hD hg hwr;go_enter Tryz.func51,Tryz.ntmps51;go_upto_region 1 with fail
 rw [HW.out];clear HW;have HM:Hid (∀ w2:World,Below W.heap.size W w2->Bk w2 w.heap.size 29 #[.int .i64 0,.int .i64 0]/\Below w.heap.size w w2):=Hd fun w2 h=>⟨HZ.out.1.keep h,Bc HZ.out.2 h⟩
 go_wp2_with (go_at_call 52;refine HC.out.mono ?_;rintro e w2 ⟨rfl,hb2⟩;have HE:=Hd (HM.out w2 hb2);have Z:=HE.out.1;have z0:=Z.cell 0;have z1:=Z.cell 1;have k0:=Z.fz 0;have k1:=Z.fz 1;have kl:=Z.lt;simp at z0 z1);have R:Bk ((w2.setCell ⟨w.heap.size,0,none⟩ (.int .i64 s1)).setCell ⟨w.heap.size,1,none⟩ (.int .i64 s2)) w.heap.size 29 _:=(HE.out.1.put 0 (.int .i64 s1)).put 1 (.int .i64 s2);have hB:=(HE.out.2.setCell (p:=⟨w.heap.size,0,none⟩) Le (.int .i64 s1)).setCell (p:=⟨w.heap.size,1,none⟩) Le (.int .i64 s2);refine bodyPost_ret (v:=.agg #[.int .i64 s1,.int .i64 s2]) (results_cell_row rfl _ _ _ 29 _ (0,0) _ rfl R Tryz.underlying29 rfl (by kernel_rfl)) rfl ?_
 exact ⟨rfl,hB⟩
end
section
def ovK (l:List (Int×Int)) (k:Nat):Int×Int:=(l.tail.take k).foldl Du (l.headD (0,0))
theorem ovK_zero (l:List (Int×Int)):ovK l 0=l.headD (0,0):=by simp [ovK]
theorem ovK_all (l:List (Int×Int)):ovK l (l.length - 1)=overF l:=by
 unfold ovK overF;rw [List.take_of_length_le (by simp)]
theorem ovK_succ (l:List (Int×Int)) (k:Nat) (h:k+1<l.length):ovK l (k+1)=Du (ovK l k) l[k+1]:=by
 unfold ovK;rw [List.take_add_one,List.getElem?_eq_getElem (by simp;omega)]
 simp
structure HullR (w W:World) (b5:Nat) (sp:List (Int×Int)) (k:Nat) (V:World):Prop where
 bl:Below W.heap.size W V
 bk:Bk V b5 29 #[.int .i64 (ovK sp k).1,.int .i64 (ovK sp k).2]
 lt:W.heap.size<=b5
theorem hulls_any (b1 b2 c:Nat) (ps:List Nat) (sp:List (Int×Int)) (hl:sp.length=ps.length) (hn:1<=ps.length) (hm:ps.length<=1000000) (hcap:ps.length<=c) (A:Option Addr) (w:World) (hA:Ad w A (ps.map fun q=>.pointer (some ⟨q,0,none⟩)))
  (hf:∀ X,Below w.heap.size w X->∀ i (h:i<ps.length),Calls Tryz.prog 51 #[.pointer (some ⟨ps[i],0,none⟩),.pointer (some ⟨b1,0,none⟩),.pointer (some ⟨b2,0,none⟩)] X fun e w'=>e=.returned (.agg #[.int .i64 (sp[i]'(by omega)).1,.int .i64 (sp[i]'(by omega)).2])/\Below X.heap.size X w') :
  Calls Tryz.prog 50 #[.slice A ps.length c,.func (.func 51) #[] #[.pointer (some ⟨b1,0,none⟩),.pointer (some ⟨b2,0,none⟩)]] w fun e w'=>e=.returned (.agg #[.int .i64 (overF sp).1,.int .i64 (overF sp).2])/\Below w.heap.size w w':=by
 obtain ⟨n,hn0⟩:∃ n,ps.length=n+1:=⟨ps.length - 1,by omega⟩
 obtain ⟨g,o,rfl,hg,hc⟩:=hA (by simp;omega)
 have HC:=Hd (fun i (h:i<ps.length)=>hc i (.pointer (some ⟨ps[i],0,none⟩)) (by simp [h]))
 obtain ⟨W,hW⟩:∃ W,w.alloc (.cells #[.int .i64 0,.int .i64 0] 29)=W:=⟨_,rfl⟩;have hbW:Below w.heap.size w W:=by rw [<- hW];exact Ba
 have Z:Bk W w.heap.size 29 #[.int .i64 0,.int .i64 0]:=by rw [<- hW];exact Aa rfl
 have hgW:g<W.heap.size:=by rw [<- hW];simp;omega
 have gp:∀ i (h:i<ps.length),ps.getD i 0=ps[i]:=fun i h=>by rw [List.getD_eq_getElem?_getD,List.getElem?_eq_getElem h];rfl
 have gs:∀ i (h:i<sp.length),sp.getD i (0,0)=sp[i]:=fun i h=>by rw [List.getD_eq_getElem?_getD,List.getElem?_eq_getElem h];rfl
 have HF:=Hd (fun (X:World) (h:Below W.heap.size W X) i (hi:i<n+1)=>(show Calls Tryz.prog 51 #[.pointer (some ⟨ps.getD i 0,0,none⟩),.pointer (some ⟨b1,0,none⟩),.pointer (some ⟨b2,0,none⟩)] X fun e w'=>e=.returned (.agg #[.int .i64 (sp.getD i (0,0)).1,.int .i64 (sp.getD i (0,0)).2])/\Below X.heap.size X w' from by
  rw [gp i (by omega),gs i (by omega)]
  exact hf X (Bc hbW h) i (by omega)))
 have HCW:=Hd (fun (X:World) (h:Below W.heap.size W X) i (hi:i<n+1)=>(show X.cell? ⟨g,o+i,none⟩=some (.pointer (some ⟨ps.getD i 0,0,none⟩)) from by
  rw [gp i (by omega)]
  exact Ag h (Ag hbW (HC.out i (by omega)))))
 have HH:=Hd (fun (X:World) (i:Nat)=>hull_any (ovK sp i) (sp.getD (i+1) (0,0)) X)
 have HS:=Hd (fun i (h:i+1<n+1)=>(show ovK sp (i+1)=Du (ovK sp i) (sp.getD (i+1) (0,0)) from by rw [ovK_succ sp i (by omega),gs (i+1) (by omega)]))
 have HE0:ovK sp 0=sp.getD 0 (0,0):=by
  rw [ovK_zero];cases sp<;>rfl
 have HEA:ovK sp n=overF sp:=by rw [<- ovK_all,hl,hn0];rfl
 have c0:W.cell? ⟨g,o,none⟩=some (.pointer (some ⟨ps.getD 0 0,0,none⟩)):=HCW.out W (Below.refl _ _) 0 (by omega)
 have HW:=Hd hW;have HZ:=Hd (Ai Z hbW);have HF0:=Hd (HF.out W (Below.refl _ _) 0 (by omega))
 rw [hn0] at hm hn hcap ⊢;rw [<- HEA];rw [<- HE0] at HF0;generalize hs0:ovK sp 0=s0 at *;have HS0:=Hd hs0;generalize ps.getD 0 0=p0 at *;have sl:∃ A',(∀ X:World,(Instr.slice 133 (.slice (some ⟨g,o,none⟩) (n+1) c) (some (.int .i64 1)) none none).run Tryz.prog X=.ok (.slice A' n (c - 1)) X)/\(0<n->A'=some ⟨g,o+1,none⟩):=by
  refine ⟨if c=1 then some ⟨g,o,none⟩ else some ⟨g,o+1,none⟩,fun X=>?_,fun h=>if_neg (by omega)⟩
  rw [run_slice_l (P:=Tryz.prog) (w:=X) 133 (some ⟨g,o,none⟩) (n+1) c Tryz.underlying133 .i64 1 (by omega) (by omega)]
  have hsz:(sizeOf (Tryz.prog.elem 133)).run Tryz.prog X=.ok 1 X:=by kernel_rfl
  rw [hsz]
  by_cases hc1:c=1<;>simp [sliced,hc1,Result.andThen,Addr.add]
 obtain ⟨A',sl,hA'⟩:=sl;have HA':=Hd hA';clear hW hbW Z hf hc HC HE0 HEA gp gs hl hn0 hs0 hA hA';have hnI:(0:Int)<=n:=by omega
 go_enter Tryz.func50,Tryz.ntmps50;go_upto_region 1 with fail
 rw [HW.out];clear HW;go_upto_region 2 with (go_at_call 51;refine HF0.out.mono ?_;rintro e w1 ⟨rfl,hb1⟩;have H1:=Hd hb1;clear hb1)
 have HV:Hid (HullR w W w1.heap.size sp 0 (w1.alloc (.cells #[.int .i64 s0.1,.int .i64 s0.2] 29))):=Hd ⟨bw_alloc H1.out _,HS0.out ▸ Aa rfl,H1.out.size⟩;clear H1 HF0 c0 HS0;generalize w1.alloc (.cells #[.int .i64 s0.1,.int .i64 s0.2] 29)=V at *;generalize w1.heap.size=b5 at *;go_upto_region 3 with fail
 clear sl;go_loopw [16] (fun v wr=>∃ k:Nat,k<=n/\v=.int .i64 k/\Hid (HullR w W b5 sp k wr)) (fun v _=>n - (intOf v).toNat)
 case atStart=>exact ⟨0,Nat.zero_le _,rfl,HV⟩
 case round =>
  clear HV;obtain ⟨k,hk,rfl,HB⟩:=hrel
  by_cases hlt:k<n
  ·have hkI:(k:Int)<n:=by omega
   obtain rfl:=HA'.out (by omega)
   have d0:=HCW.out wr HB.out.bl (k+1) (by omega)
   have dl:g<wr.heap.size:=Nat.lt_of_lt_of_le hgW HB.out.bl.size;rw [show o+(k+1)=o+1+k by omega] at d0
   have HC1:=Hd (fun x:Ext wr=>HF.out x.w (Bc HB.out.bl x.bel) (k+1) (by omega))
   have HC2:=Hd (fun x:Ext wr=>HH.out x.w k)
   have HN:=Hd (HS.out k (by omega))
   have e0:=HB.out.bk.cell 0;have e1:=HB.out.bk.cell 1;simp at e0 e1;generalize ps.getD (k + 1) 0=pk at *;generalize sp.getD (k + 1) (0,0)=sk at *;generalize ovK sp k=u at *;go_upto_region 5 with fail
   clear d0 dl;replace e0:=fun x:Ext wr=>Ag x.bel e0
   replace e1:=fun x:Ext wr=>Ag x.bel e1
   refine By 5 (by kernel_rfl) (by kernel_rfl) (fun _ _ d _ _ h=>by cases d<;>exact h) ?_
   simp only [List.take_succ_cons,List.take_zero,List.drop_succ_cons,List.drop_zero];repeat (go_big_quiet_step (first | (go_at_call 51;exact Cj (HC1.out _)) | (go_at_call 97;exact Cj (HC2.out _))))
   refine wpQuiet_nil ?_;rintro _ ⟨y,rfl⟩;have hb2:=y.bel;generalize y.w=w2 at hb2 ⊢;clear e0 e1 HC1 HC2;have Z:=HB.out.bk.keep hb2;have hB2:=Bc HB.out.bl hb2;have z0:=Z.cell 0;have z1:=Z.cell 1;have k0:=Z.fz 0;have k1:=Z.fz 1;have kl:=Z.lt;simp at z0 z1;have HR:Hid (HullR w W b5 sp (k+1) ((w2.setCell ⟨b5,0,none⟩ (.int .i64 (Du u sk).1)).setCell ⟨b5,1,none⟩ (.int .i64 (Du u sk).2))) :=
    Hd ⟨(hB2.setCell (p:=⟨b5,0,none⟩) HB.out.lt _).setCell (p:=⟨b5,1,none⟩) HB.out.lt _,by rw [HN.out];exact (Z.put 0 (.int .i64 (Du u sk).1)).put 1 (.int .i64 (Du u sk).2),HB.out.lt⟩
   clear HB Z hB2 HN;generalize Du u sk=hu at *;go_wp2_with fail;go_roundw
   case rel=>exact ⟨k+1,by omega,by go_num,HR⟩
   case measure=>simp [intOf];omega
  ·obtain rfl:k=n:=by omega
   have Z:=HZ.out.1.keep HB.out.bl;have hB2:=Bc HZ.out.2 HB.out.bl;have e0:=HB.out.bk.cell 0;have e1:=HB.out.bk.cell 1;simp at e0 e1;have z0:=Z.cell 0;have z1:=Z.cell 1;have k0:=Z.fz 0;have k1:=Z.fz 1;have kl:=Z.lt;simp at z0 z1;generalize hu0:ovK sp k=u at *;have HU:=Hd hu0;clear hu0;have R:Bk ((wr.setCell ⟨w.heap.size,0,none⟩ (.int .i64 u.1)).setCell ⟨w.heap.size,1,none⟩ (.int .i64 u.2)) w.heap.size 29 _:=(Z.put 0 (.int .i64 u.1)).put 1 (.int .i64 u.2);have hB:=(hB2.setCell (p:=⟨w.heap.size,0,none⟩) Le (.int .i64 u.1)).setCell (p:=⟨w.heap.size,1,none⟩) Le (.int .i64 u.2);clear HB Z hB2 HZ;go_wp2_with fail;refine bodyPost_ret (v:=.agg #[.int .i64 u.1,.int .i64 u.2]) (results_cell_row rfl _ _ _ 29 _ (0,0) _ rfl R Tryz.underlying29 rfl (by kernel_rfl)) rfl ?_
   exact ⟨by rw [HU.out],hB⟩
end
section
theorem info138:(Tryz.prog.info? 138).map (fun i=>(i.zero,i.size,i.bytes))=some (some (.pointer none),1,8):=by kernel_rfl
theorem eql_nil_any (w:World) (a:Option Addr) (n c n' c':Nat):(binOp .eql 208 (.slice a n c) (.slice none n' c')).run Tryz.prog w=.ok (.bool a.isNone) w:=by
 simp only [binOp];simp [Op.equal,Op.maxDepth,Lib.run_equalIn_slice_nil (P:=Tryz.prog) w 9999 208 319 a n c n' c' Tryz.underlying208]
theorem one_cell_at (w:World) (v:Value) (t:TypeId) (n:Nat) (h:w.heap.size=n):∀ (j:Nat) (x:Value),[v][j]?=some x->(w.alloc (.cells #[v] t)).cell? ((⟨n,0,none⟩:Addr).add j)=some x:=by
 intro j x hx;have hb:Bk (w.alloc (.cells #[v] t)) n t #[v]:=Aa h;rw [De,Nat.zero_add,hb.cell j]
 simpa using hx
section
variable {V V':World} {B e sz n:Nat} {v:Value} {xs:List Value}
theorem grown_block (ho:V.ownsRow B e sz v n xs) (hg:V.grownBy V' v.ownBlock) {b:Nat} {o:Obj} (hb:V.heap[b]?=some o) (hn:∀ cs,o≠.cells cs e (0,0)):V'.heap[b]?=some o:=by
 refine (hg.block b (Array.getElem?_eq_some_iff.1 hb).1 fun he=>?_).trans hb
 rcases ho.2 with ⟨rfl,_⟩ | ⟨g,cap,cur,rfl,_,hh,_⟩
 ·cases he
 ·injection he with he
  subst he;rw [hb] at hh;injection hh with hh
  exact hn _ hh
theorem grown_bk (ho:V.ownsRow B e sz v n xs) (hg:V.grownBy V' v.ownBlock) {b:Nat} {t:TypeId} {cs:Array Value} (hb:Bk V b t cs) (hn:t≠e):Bk V' b t cs :=
 grown_block ho hg (o:=.cells cs t (0,0)) hb (fun cs' h=>by injection h with h1 h2;exact hn h2)
theorem grown_rch (ho:V.ownsRow B 138 sz v n xs) (hg:V.grownBy V' v.ownBlock) {r:Nat} {N:List (Int×Int)} {d:List Int} (h:RchAt V r N d):RchAt V' r N d:=by
 obtain ⟨g,A,B,L,a,b,k,l,m,t,h1,⟨es,c,h2,h2'⟩,h3,h4⟩:=h.ex;refine ⟨g,A,B,L,a,b,k,l,m,t,grown_bk ho hg h1 (by decide),⟨es,c,grown_block ho hg h2 (fun _=>by simp),h2'⟩,fun h0=>?_,fun x hx=>(h4 x hx).imp fun _ h=>grown_bk ho hg h (by decide)⟩
 obtain ⟨b',off,rfl,hb,hc⟩:=h3 h0;obtain ⟨cs,hcs⟩:=h4 _ rfl;refine ⟨b',off,rfl,Nat.lt_of_lt_of_le hb hg.size,fun j u hu=>?_⟩
 have e1:V'.heap[b']?=V.heap[b']?:=(show V'.heap[b']?=_ from grown_bk ho hg hcs (by decide)).trans (show V.heap[b']?=_ from hcs).symm
 exact (World.cell?_of_block (a:=⟨b',off+j,none⟩) e1).trans (hc j u hu)
theorem grown_sol (ho:V.ownsRow B 138 sz v n xs) (hg:V.grownBy V' v.ownBlock) {D:Ap} {wd:List Int} {q:Nat} (h:SolAt D wd q V):SolAt D wd q V':=by
 obtain ⟨A,c,n,r1,r2,u,v,h1,h2,h3,h4,h5⟩:=h.ex;exact ⟨h.lives,A,c,n,r1,r2,u,v,grown_bk ho hg h1 (by decide),h2,grown_rch ho hg h3,h4,grown_rch ho hg h5⟩
end
def ptrV (q:Nat):Value:=.pointer (some ⟨q,0,none⟩)
structure AllI (D:Ap) (B:Nat) (w1:World) (M:List (List Int)) (qs:List Nat) (A:Option Addr) (c:Nat) (V:World):Prop where
 bl:Below B w1 V
 own:V.ownsRow B 138 1 (.slice A qs.length c) qs.length (qs.map ptrV)
 len:qs.length=M.length
 sol:∀ i,i<qs.length->SolAt D (M.getD i []) (qs.getD i 0) V
 le:B<=V.heap.size
def AllP (D:Ap) (w:World) (e:Ending) (V:World):Prop :=
 Below w.heap.size w V/\((Bb D=[]/\e=.returned (.tuple #[.slice none 0 0,.int .i64 41]))\/(Bb D≠[]/\∃ (qs:List Nat) (A:Option Addr) (c:Nat),qs.length=(Bb D).length/\qs.length<=c/\e=.returned (.tuple #[.slice A qs.length c,.int .i64 0])/\Ad V A (qs.map ptrV)/\∀ i,i<qs.length->SolAt D ((Bb D).getD i []) (qs.getD i 0) V))
theorem AllI.below {D:Ap} {B:Nat} {w1:World} {M:List (List Int)} {qs:List Nat} {A:Option Addr} {c:Nat} {V V':World} (h:AllI D B w1 M qs A c V) (hb:Below V.heap.size V V'):AllI D B w1 M qs A c V' :=
 ⟨h.bl.trans (hb.mono h.le),Ca h.own hb,h.len,fun i hi=>(h.sol i hi).below hb,Nat.le_trans h.le hb.size⟩
theorem getD_snoc {α:Type} (l:List α) (x d:α) (i:Nat):(l ++ [x]).getD i d=if i<l.length then l.getD i d else if i=l.length then x else d:=by
 simp only [List.getD_eq_getElem?_getD]
 by_cases h:i<l.length
 ·rw [List.getElem?_append_left h,if_pos h]
 ·rw [if_neg h,List.getElem?_append_right (by omega)]
  by_cases h2:i=l.length
  ·subst h2;simp
  ·rw [if_neg h2,List.getElem?_eq_none (by simp;omega)];rfl
theorem AllI.snoc {D:Ap} {B:Nat} {w1:World} {M:List (List Int)} {qs:List Nat} {A A':Option Addr} {c c':Nat} {V V':World} (h:AllI D B w1 M qs A c V) {wd:List Int} {q:Nat} (hs:SolAt D wd q V)
  (hg:V.grownBy V' (Value.slice A qs.length c).ownBlock) (ho:V'.ownsRow B 138 1 (.slice A' (qs.length+1) c') (qs.length+1) (qs.map ptrV ++ [ptrV q])):AllI D B w1 (M ++ [wd]) (qs ++ [q]) A' c' V':=by
 refine ⟨h.bl.grown hg h.le (fun g hg'=>(h.own.lt g hg').1),by rw [List.map_append,List.length_append];exact ho,by simp [h.len],fun i hi=>?_,Nat.le_trans h.le hg.size⟩
 simp only [List.length_append,List.length_cons,List.length_nil] at hi;rw [getD_snoc,getD_snoc,<- h.len]
 by_cases h1:i<qs.length
 ·rw [if_pos h1,if_pos h1];exact grown_sol h.own hg (h.sol i h1)
 ·rw [if_neg h1,if_neg h1,if_pos (by omega),if_pos (by omega)]
  exact grown_sol h.own hg hs
theorem all_any (D:Ap) (hD:D.Ok) (hg:D.good=true) (w:World) (hAt:D.At w):Calls Tryz.prog 48 #[.agg D.arr,.bool true] w (AllP D w):=by
 have hlen:=Ks hD.hp;have hwd:=hD.wd;obtain ⟨i0,hi0,hz0,hz1,hz2⟩:=info_parts info138;obtain ⟨W,hW⟩:∃ W,w.alloc (.cells D.arr 55)=W:=⟨_,rfl⟩;have hbW:Below w.heap.size w W:=by rw [<- hW];exact Ba
 have X:Bk W w.heap.size 55 D.arr:=by rw [<- hW];exact Aa rfl
 have HAS:=Hd (show Calls Tryz.prog 93 #[.agg D.arr,.pointer none,.bool true] W fun e w'=>e=.returned (.int .i64 0)/\Below W.heap.size W w' from (asked_any D true W (hAt.below hbW) hD).mono fun e w' h=>⟨h.1.trans (by unfold askedE;rw [hg];rfl),h.2⟩)
 have HWS:=Hd (fun (V:World) (h:Below W.heap.size W V)=>worlds_any D V (hAt.below (Bc hbW h)) hD)
 have HSV:=Hd (fun (V:World) (h:Below W.heap.size W V) (x:Eg) (hx:x.l∈Dj D.hp) (hi:IntR V x.A x.l)=>solve_any D hD hg x.l (worldsL_ok hD.hp x.l hx).1 (worldsL_ok hD.hp x.l hx).2 x.A x.c V (hAt.below (Bc hbW h)) hi.1)
 have HX:=Hd (fun (V:World) (h:Below W.heap.size W V)=>(show Bk V w.heap.size 55 #[.slice D.A1 D.st.length D.c1,.slice D.A2 D.hp.length D.c2,.slice D.A3 D.S.length D.c3,.slice D.A4 D.R.length D.c4] from X.keep h))
 have HLF:Hid (Bb D=(Dj D.hp).filter (Kh D)):=Hd rfl;have x0:=X.cell 0;have x1:=X.cell 1;have x2:=X.cell 2;have x3:=X.cell 3;simp [Ap.arr] at x0 x1 x2 x3;have HW:=Hd hW;have HBW:=Hd hbW;clear hW hbW X hAt hD hg;generalize hL:Dj D.hp=L at *;have hL12:L.length<=12:=by omega
 have HLL:=Hd hL;clear hL hlen hwd;unfold Ap.arr at *;go_enter Tryz.func48,Tryz.ntmps48;go_upto_region 1 with fail
 rw [HW.out];clear HW;go_upto_region 5 with (go_at_call 93;refine HAS.out.mono ?_;rintro e w1 ⟨rfl,hb1⟩;have H1:=Hd hb1;clear hb1)
 clear x0 x1 x2 x3 HAS;have X1:=HX.out w1 H1.out;have x0:=X1.cell 0;have x1:=X1.cell 1;have x2:=X1.cell 2;have x3:=X1.cell 3;simp at x0 x1 x2 x3;clear X1;go_upto_region 6 with (go_at_call 94;refine (HWS.out w1 H1.out).mono ?_;rintro e w2 ⟨hb2,ws,WA,wc,rfl,hws,hwi,hwl⟩;have H2:=Hd (Ai hb2 (Ai hws (Ai hwi (hwl.trans HLL.out))));clear hb2 hws hwi hwl)
 clear x0 x1 x2 x3 HWS;have HB0:Hid (AllI D w2.heap.size w2 ((L.take 0).filter (Kh D)) [] none 0 w2):=Hd ⟨Below.refl _ _,World.ownsRow_nil _ _ _ _,rfl,fun i hi=>absurd hi (Nat.not_lt_zero _),Nat.le_refl _⟩
 have hwn:ws.length=L.length:=by rw [<- H2.out.2.2.2,List.length_map]
 have hn12:ws.length<=12:=by omega
 have hz2w:W.heap.size<=w2.heap.size:=(Bc H1.out H2.out.1).size;have HN:=Hd hwn;clear hwn hL12;have hen:=fun W:World=>eql_nil_any W none 0 0 0 0
 have hea:=fun (W:World) (a:Addr) (k c:Nat)=>eql_nil_any W (some a) k c 0 0
 go_loopw [7,21] (fun v7 v21 wr=>∃ (k:Nat) (qs:List Nat) (A:Option Addr) (c:Nat),k<=ws.length/\v7=.slice A qs.length c/\v21=.int .i64 k/\Hid (AllI D w2.heap.size w2 ((L.take k).filter (Kh D)) qs A c wr)) (fun _ v _=>ws.length - (intOf v).toNat)
 case atStart=>exact ⟨0,[],none,0,Nat.zero_le _,rfl,rfl,HB0⟩
 case round =>
  clear HB0;obtain ⟨k,qs,A,c,hk,rfl,rfl,HB⟩:=hrel;have hBW:Below W.heap.size W wr:=(Bc H1.out H2.out.1).trans (HB.out.bl.mono hz2w)
  by_cases hlt:k<ws.length
  ·have hkI:(k:Int)<ws.length:=by omega
   obtain ⟨b6,o6,hA6,hb6,hc6⟩:=(H2.out.2.1.below HB.out.bl) (by simp;omega)
   have d0:wr.cell? ⟨b6,o6+k,none⟩=some (.slice ws[k].A ws[k].l.length ws[k].c):=hc6 k _ (by simp [hlt];rfl)
   subst hA6;have hi:=H2.out.2.2.1 ws[k] (List.getElem_mem hlt);have hxl:ws[k].l=L[k]'(by have:=HN.out;omega):=by
    have h:=H2.out.2.2.2;subst h;simp
   have htk:(L.take (k+1))=L.take k ++ [ws[k].l]:=by
    rw [List.take_succ_eq_append_getElem (by have:=HN.out;omega),hxl]
   have HC:=Hd (HSV.out wr hBW ws[k] (by rw [hxl];exact List.getElem_mem _) ⟨hi.1.below HB.out.bl,fun a ha=>(hi.2 a ha).imp fun _ h=>h.keep HB.out.bl⟩)
   have HT:=Hd htk;generalize ws[k]=x at *;clear hc6 hi hxl htk;have X1:=HX.out wr hBW;have x0:=X1.cell 0;have x1:=X1.cell 1;have x2:=X1.cell 2;have x3:=X1.cell 3;simp at x0 x1 x2 x3;clear X1 hBW;have hq12:qs.length<=12:=by
    have h1:=HB.out.len;have h2:=List.length_filter_le (Kh D) (L.take k);have h3:=List.length_take_le k L;omega
   go_upto_region 9 with (go_at_call 95;refine HC.out.mono ?_;rintro e w3 ⟨hb3,hr⟩;have HB3:=Hd (HB.out.below hb3);clear hb3;rcases hr with ⟨hl,q,hq,rfl,hS⟩ | ⟨hl,g7,n7,c7,hn7,rfl⟩)
   ·have HS:=Hd (Ai hl hS);clear hl hS hq d0 hb6 x0 x1 x2 x3 HC HB;have HB4:=Hd (HB3.out.below ((Below.refl w3.heap.size w3).alloc Le (.cells #[.pointer (some ⟨q,0,none⟩)] 138)));have HS4:=Hd (HS.out.2.below ((Below.refl w3.heap.size w3).alloc Le (.cells #[.pointer (some ⟨q,0,none⟩)] 138)));have E:=Hd (show qs.length+1<=maxLen/\(qs.length+1)*8<=140737488355328 from ⟨by unfold maxLen;omega,by omega⟩)
    go_wp2_with (at_builtin;refine wpList_append_own _ rfl _ _ 133 rfl w2.heap.size 138 i0 _ 1 8 Tryz.underlying133 hi0 hz0 hz1 hz2 rfl (by decide) _ _ _ rfl HB4.out.own ⟨w3.heap.size,0,none⟩ 1 1 [.pointer (some ⟨q,0,none⟩)] rfl rfl (one_cell_at _ _ _ _ rfl) (by simp [Value.oneCell']) E.out.1 E.out.2 HB4.out.le ?_;intro v' w4 hown' hg4 _)
    obtain ⟨A',c',rfl,_⟩:=Au hown';have HB5:=Hd (HB4.out.snoc HS4.out hg4 hown');clear hown' hg4;go_wp2_with fail;go_roundw
    case rel=>exact ⟨k+1,qs ++ [q],A',c',by omega,by rw [List.length_append];rfl,by go_num,by rw [HT.out,List.filter_append];simpa [HS.out.1] using HB5⟩
    case measure=>simp [intOf];omega
   ·have HL:=Hd hl;clear hl d0 hb6 x0 x1 x2 x3 HC HB;go_wp2_with fail;go_roundw
    case rel=>exact ⟨k+1,qs,A,c,by omega,rfl,by go_num,by rw [HT.out,List.filter_append];simpa [HL.out] using HB3⟩
    case measure=>simp [intOf];omega
  ·obtain rfl:k=ws.length:=by omega
   have hM:(L.take ws.length).filter (Kh D)=Bb D:=by rw [HLF.out,List.take_of_length_le (by have:=HN.out;omega)]
   rw [hM] at HB;have HE:=Hd (Ai (Bc HBW.out hBW) HB.out);clear hM HB hBW
   by_cases h0:qs.length=0
   ·have HQ:Hid (Bb D=[]):=Hd (List.length_eq_zero_iff.1 (HE.out.2.len ▸ h0));rw [h0];go_wp2_with fail;go_ret2;exact ⟨HE.out.1,.inl ⟨HQ.out,rfl⟩⟩
   ·have HQ:Hid (Bb D≠[]):=Hd (fun h=>h0 (by rw [HE.out.2.len,h];rfl))
    have h1:¬ (qs.length:Int)=0:=by omega
    obtain ⟨A',c',hv,hc',hrow,_⟩:=Au HE.out.2.own;have HR:=Hd (Ai hv (Ai hc' hrow));clear hv hc' hrow;go_wp2_with fail;go_ret2;refine ⟨HE.out.1,.inr ⟨HQ.out,qs,A,c,HE.out.2.len,?_,rfl,?_,HE.out.2.sol⟩⟩
    ·have:=HR.out.1;injection this with e1 e2 e3
     rw [e3];exact HR.out.2.1
    ·have:=HR.out.1;injection this with e1 e2 e3
     rw [e1];exact HR.out.2.2
end
section
theorem info29w:(Tryz.prog.info? 29).map (fun i=>(i.zero,i.size,i.bytes))=some (some (.agg #[.int .i64 0,.int .i64 0]),2,16):=by kernel_rfl
def AllV (D:Ap) (v6 v7:Value) (V:World):Prop :=
 (Bb D=[]/\v6=.slice none 0 0/\v7=.int .i64 41)\/(Bb D≠[]/\∃ (qs:List Nat) (A:Option Addr) (c:Nat),qs.length=(Bb D).length/\qs.length<=c/\v6=.slice A qs.length c/\v7=.int .i64 0/\Ad V A (qs.map ptrV)/\∀ i,i<qs.length->SolAt D ((Bb D).getD i []) (qs.getD i 0) V)
theorem AllP.vals {D:Ap} {w:World} {e:Ending} {V:World} (h:AllP D w e V):Below w.heap.size w V/\∃ v6 v7,e=.returned (.tuple #[v6,v7])/\AllV D v6 v7 V:=by
 refine ⟨h.1,?_⟩;rcases h.2 with ⟨h1,rfl⟩ | ⟨h1,qs,A,c,h2,h3,rfl,h4,h5⟩
 ·exact ⟨_,_,rfl,.inl ⟨h1,rfl,rfl⟩⟩
 ·exact ⟨_,_,rfl,.inr ⟨h1,qs,A,c,h2,h3,rfl,rfl,h4,h5⟩⟩
def HeightsP (D:Ap) (w:World) (e:Ending) (V:World):Prop :=
 Below w.heap.size w V/\((Bb D=[]/\e=.returned (.tuple #[.slice none 0 0,.int .i64 41]))\/(Bb D≠[]/\∃ (A:Option Addr) (c:Nat),e=.returned (.tuple #[.slice A D.st.length c,.int .i64 0])/\Ad V A (Am (Cr D D.S.length))))
structure HtsR (B:Nat) (wc:World) (hs:List (Int×Int)) (k:Nat) (A:Option Addr) (c:Nat) (V:World):Prop where
 bl:Below B wc V
 own:V.ownsRow B 29 2 (.slice A k c) k (Am (hs.take k))
 le:B<=V.heap.size
theorem spanCells_succ (l:List (Int×Int)) (k:Nat) (hk:k<l.length):Am (l.take (k+1))=Am (l.take k) ++ [.int .i64 (l.getD k (0,0)).1,.int .i64 (l.getD k (0,0)).2]:=by
 rw [List.take_succ_eq_append_getElem hk,Aj _ _ hk];unfold Am;rw [List.flatMap_append];rfl
theorem living_mem {D:Ap} (hD:D.Ok) {wd:List Int} (h:wd∈Bb D):wd.length=D.hp.length/\∀ i,0<=wd.getD i 0/\wd.getD i 0<=255:=worldsL_ok hD.hp wd (List.mem_filter.1 h).1
theorem living_len {D:Ap} (hD:D.Ok):(Bb D).length<=12:=by
 have h1:=Ks hD.hp;have h2:=hD.wd;have h3:=List.length_filter_le (Kh D) (Dj D.hp);unfold Bb;omega
theorem heightsF_len (D:Ap) (t:Int):(Cr D t).length=D.st.length:=by simp [Cr]
theorem heightsF_at (D:Ap) (t:Int) {k:Nat} (hk:k<D.st.length):(Cr D t).getD k (0,0)=overF ((Bb D).map fun w=>Ec D w ((k:Int),t)):=by
 rw [Aj _ _ (by rw [heightsF_len];exact hk)]
 simp [Cr]
theorem over_at (D:Ap) (hD:D.Ok) (hg:D.good=true) (k:Nat) (hk:k<D.st.length) (hne:Bb D≠[]) (b1 b2 c:Nat) (qs:List Nat) (A:Option Addr) (X:World) (hql:qs.length=(Bb D).length) (hqc:qs.length<=c) (hrow:Ad X A (qs.map ptrV)) (hs:∀ i,i<qs.length->SolAt D ((Bb D).getD i []) (qs.getD i 0) X) (h1:Bk X b1 3 #[.int .i64 (k:Int)]) (h2:Bk X b2 3 #[.int .i64 D.S.length]) :
  Calls Tryz.prog 50 #[.slice A qs.length c,.func (.func 51) #[] #[.pointer (some ⟨b1,0,none⟩),.pointer (some ⟨b2,0,none⟩)]] X fun e w'=>e=.returned (.agg #[.int .i64 ((Cr D D.S.length).getD k (0,0)).1,.int .i64 ((Cr D D.S.length).getD k (0,0)).2])/\Below X.heap.size X w':=by
 have hl:=living_len hD;have h0:1<=(Bb D).length:=by
  cases hL:Bb D with
  | nil=>exact absurd hL hne
  | cons a l=>simp
 rw [heightsF_at D _ hk];refine hulls_any b1 b2 c qs _ (by simp [hql]) (by omega) (by omega) hqc A X hrow fun Y hY i hi=>?_
 have hil:i<(Bb D).length:=by omega
 have hm:(Bb D)[i]∈Bb D:=List.getElem_mem hil;have hsi:=hs i hi;rw [Aj _ _ hil,Aj _ _ hi] at hsi;have:=heights1_any D hD hg (Bb D)[i] (living_mem hD hm).2 qs[i] b1 b2 ((k:Int),(D.S.length:Int)) (by unfold Gl;right;simp;omega) Y (hsi.below hY) (h1.keep hY) (h2.keep hY)
 simpa using this
theorem heights_any (D:Ap) (hD:D.Ok) (hg:D.good=true) (w:World) (hAt:D.At w):Calls Tryz.prog 21 #[.agg D.arr,.int .i64 D.S.length] w (HeightsP D w):=by
 have hst:=hD.n;obtain ⟨i0,hi0,hz0,hz1,hz2⟩:=info_parts info29w;have HOV:=Hd (fun k hk hne b1 b2 c qs A X hql hqc hrow hs h1 h2=>over_at D hD hg k hk hne b1 b2 c qs A X hql hqc hrow hs h1 h2)
 have HHL:=Hd (heightsF_len D D.S.length);have hs10:=hD.s10;obtain ⟨W,hW⟩:∃ W,(w.alloc (.cells D.arr 55)).alloc (.cells #[.int .i64 D.S.length] 3)=W:=⟨_,rfl⟩;have hbW:Below w.heap.size w W:=by rw [<- hW];exact Ba.alloc (by simp) _
 have X:Bk W w.heap.size 55 D.arr:=by rw [<- hW];exact (Aa rfl).alloc _
 have Y:Bk W (w.heap.size+1) 3 #[.int .i64 D.S.length]:=by rw [<- hW];exact Aa (by simp)
 have hin:inB (D.S.length:Int) 0 D.S.length=true:=by simp [inB]
 have HIS:=Hd (fun (V:World)=>(show Calls Tryz.prog 49 #[.agg D.arr,.int .i64 D.S.length] V fun e w'=>e=.returned (.bool true)/\Below V.heap.size V w' from (isSlice_any D D.S.length V).mono fun e w' h=>⟨h.1.trans (by rw [hin]),h.2⟩))
 clear hin;have HAL:=Hd (fun (V:World) (h:Below W.heap.size W V)=>(all_any D hD hg V (hAt.below (Bc hbW h))).mono fun e w' h=>h.vals)
 have x0:=X.cell 0;have x1:=X.cell 1;have x2:=X.cell 2;have x3:=X.cell 3;have y0:=Y.cell 0;simp [Ap.arr] at x0 x1 x2 x3 y0;have HXY:=Hd (Ai (show Bk W w.heap.size 55 #[.slice D.A1 D.st.length D.c1,.slice D.A2 D.hp.length D.c2,.slice D.A3 D.S.length D.c3,.slice D.A4 D.R.length D.c4] from X) (Ai Y hbW))
 have HW:=Hd hW;clear hW hbW X Y hAt hD hg;unfold Ap.arr at *;go_enter Tryz.func21,Tryz.ntmps21;go_upto_region 1 with fail
 rw [HW.out];clear HW;have s0:W.drew.cell? ⟨w.heap.size,0,none⟩=some (.slice D.A1 D.st.length D.c1):=x0;have s1:W.drew.cell? ⟨w.heap.size,1,none⟩=some (.slice D.A2 D.hp.length D.c2):=x1;have s2:W.drew.cell? ⟨w.heap.size,2,none⟩=some (.slice D.A3 D.S.length D.c3):=x2;have s3:W.drew.cell? ⟨w.heap.size,3,none⟩=some (.slice D.A4 D.R.length D.c4):=x3;have s4:W.drew.cell? ⟨w.heap.size+1,0,none⟩=some (.int .i64 D.S.length):=y0;go_cut [6,7] (fun v6 v7 wx=>Hid (Below W.heap.size W wx/\AllV D v6 v7 wx))
 case first =>
  have hb5:True:=trivial;have hb6:True:=trivial;go_region_held3 (fun w'=>w'.cell? ⟨w.heap.size,0,none⟩=some (.slice D.A1 D.st.length D.c1)/\w'.cell? ⟨w.heap.size,1,none⟩=some (.slice D.A2 D.hp.length D.c2)/\w'.cell? ⟨w.heap.size,2,none⟩=some (.slice D.A3 D.S.length D.c3)/\w'.cell? ⟨w.heap.size,3,none⟩=some (.slice D.A4 D.R.length D.c4)/\w'.cell? ⟨w.heap.size+1,0,none⟩=some (.int .i64 D.S.length))
   (refine ⟨?_,?_,?_,?_,?_⟩<;>(repeat (first | with_reducible exact x0 | with_reducible exact x1 | with_reducible exact x2 | with_reducible exact x3 | with_reducible exact y0 | with_reducible exact s0 | with_reducible exact s1 | with_reducible exact s2 | with_reducible exact s3 | with_reducible exact s4 | with_reducible refine Ag hb5 ?_ | with_reducible refine Ag hb6 ?_)))
   (first
   | (go_at_call 49;(with_reducible refine (HIS.out _).mono ?_);rintro e w5 ⟨rfl,hb5⟩)
   | (go_at_call 48;(with_reducible refine (HAL.out _ (Bc (bw_drew (Below.refl _ _)) hb5)).mono ?_);rintro e w6 ⟨hb6,v6,v7,rfl,hV⟩))
  all_goals
   have HE:=Hd (show Below W.heap.size W w6/\AllV D v6 v7 w6 from ⟨Bc (Bc (bw_drew (Below.refl _ _)) hb5) hb6,hV⟩)
   clear hV hb5 hb6 s0 s1 s2 s3 s4 x0 x1 x2 x3 y0;go_wp2_with fail;go_meet
   case rel=>exact HE
 case rest =>
  have HA:=hcut;clear s0 s1 s2 s3 s4 x0 x1 x2 x3 y0 HIS HAL;have hX:=HXY.out.1.keep HA.out.1;have hY:=HXY.out.2.1.keep HA.out.1;have HK:=Hd (Ai hX (Ai hY (Bc HXY.out.2.2 HA.out.1)));clear hX hY;rcases HA.out.2 with ⟨hl0,rfl,rfl⟩ | ⟨hne,qs,A,c,hql,hqc,rfl,rfl,hrow,hsol⟩
  ·have HE:=Hd (show HeightsP D w (.returned (.tuple #[.slice none 0 0,.int .i64 41])) wc from ⟨HK.out.2.2,.inl ⟨hl0,rfl⟩⟩)
   clear hl0 HOV;go_wp2_with fail;go_ret2;exact HE.out
  ·have HQ:=Hd (Ai hne (Ai hql (Ai hqc (Ai hrow hsol))));clear hne hql hqc hrow hsol HA;have x0:=HK.out.1.cell 0;have xl:=HK.out.1.lt;simp at x0;go_upto_region 6 with fail
   clear x0 xl;have HB0:Hid (HtsR wc.heap.size wc (Cr D D.S.length) 0 none 0 wc):=Hd ⟨Below.refl _ _,World.ownsRow_nil _ _ _ _,Nat.le_refl _⟩;go_loopw [8,24] (fun v8 v24 wr=>∃ (k:Nat) (A':Option Addr) (c':Nat),k<=D.st.length/\v8=.slice A' k c'/\v24=.int .i64 k/\Hid (HtsR wc.heap.size wc (Cr D D.S.length) k A' c' wr)) (fun _ v _=>D.st.length - (intOf v).toNat)
   case atStart=>exact ⟨0,none,0,Nat.zero_le _,rfl,rfl,HB0⟩
   case round =>
    clear HB0;obtain ⟨k,A',c',hk,rfl,rfl,HB⟩:=hrel
    by_cases hlt:k<D.st.length
    ·have hkI:(k:Int)<D.st.length:=by omega
     have HR:=Hd ((Below.refl wr.heap.size wr).alloc Le (.cells #[.int .i64 (k:Int)] 3));have HC:=Hd (HOV.out k hlt HQ.out.1 wr.heap.size (w.heap.size+1) c qs A (wr.alloc (.cells #[.int .i64 (k:Int)] 3)) HQ.out.2.1 HQ.out.2.2.1 ((HQ.out.2.2.2.1.below HB.out.bl).below HR.out) (fun i hi=>((HQ.out.2.2.2.2 i hi).below HB.out.bl).below HR.out) (Aa rfl) ((HK.out.2.1.keep HB.out.bl).keep HR.out))
     have HSC:=Hd (spanCells_succ (Cr D D.S.length) k (by rw [HHL.out];exact hlt))
     have E:=Hd (show k+1<=maxLen/\(k+1)*16<=140737488355328 from ⟨by unfold maxLen;omega,by omega⟩)
     generalize (Cr D D.S.length).getD k (0,0)=hv at *;obtain ⟨h1,h2⟩:=hv
     dsimp only at HC HSC
     go_upto_region 8 with fail
     go_wp2_with (first | (go_at_call 50;refine HC.out.mono ?_;rintro e w3 ⟨rfl,hb3⟩;have HB3:Hid (Below wr.heap.size wr w3):=Hd (Bc HR.out hb3);clear hb3;have HB4:=Hd (Bc HB3.out ((Below.refl w3.heap.size w3).alloc Le (.cells #[.int .i64 h1,.int .i64 h2] 29)))) | (at_builtin;refine wpList_append_own _ rfl _ _ 30 rfl wc.heap.size 29 i0 _ 2 16 Tryz.underlying30 hi0 hz0 hz1 hz2 rfl (by decide) _ _ _ rfl (Ca HB.out.own HB4.out) ⟨w3.heap.size,0,none⟩ 1 1 [.int .i64 h1,.int .i64 h2] rfl rfl (two_at _ _ _ _ _ rfl) (by simp [Value.oneCell']) E.out.1 E.out.2 (Nat.le_trans HB.out.le HB4.out.size) ?_;intro v' w4 hown' hg4 _;obtain ⟨A2,c2,rfl,_⟩:=Au hown'))
     have HB5:Hid (HtsR wc.heap.size wc (Cr D D.S.length) (k+1) A2 c2 w4):=Hd ⟨(HB.out.bl.trans (HB4.out.mono HB.out.le)).grown hg4 (Nat.le_trans HB.out.le HB4.out.size) (fun g hg'=>(HB.out.own.lt g hg').1),by rw [HSC.out];exact hown',Nat.le_trans (Nat.le_trans HB.out.le HB4.out.size) hg4.size⟩
     clear hown' hg4 HB HC;go_wp2_with fail;go_roundw
     case rel=>exact ⟨k+1,A2,c2,by omega,rfl,by go_num,HB5⟩
     case measure=>simp [intOf];omega
    ·obtain rfl:k=D.st.length:=by omega
     have HE:Hid (HeightsP D w (.returned (.tuple #[.slice A' D.st.length c',.int .i64 0])) wr):=Hd (by
      have ho:=HB.out.own;rw [List.take_of_length_le (by rw [HHL.out];exact Nat.le_refl _)] at ho
      exact ⟨Bc HK.out.2.2 HB.out.bl,.inr ⟨HQ.out.1,A',c',rfl,Gu ho⟩⟩)
     clear HB;go_wp2_with fail;go_ret2;exact HE.out
end
section
def outD (D:Ap):Int×List (Int×Int):=if D.good then (if Bb D=[] then (41,[]) else (0,Cr D D.S.length)) else (2,[])
theorem outD_len {D:Ap} (hD:D.Ok):(outD D).2.length<=24:=by
 have:=hD.n;unfold outD
 split
 ·split
  ·simp
  ·simp [Cr];omega
 ·simp
def BHP (b:Al) (st:Int) (H E:List EvD) (w:World) (e:Ending) (V:World):Prop :=
 Below w.heap.size w V/\∃ (code:Int) (l:List (Int×Int)) (A:Option Addr) (c:Nat),e=.returned (.tuple #[.slice A l.length c,.int .i64 code])/\Ad V A (Am l)/\l.length<=24/\((inB st 0 1=false/\code=1/\l=[])\/(inB st 0 1=true/\∃ D,TellD b st (ixS st) H E D/\D.Ok/\(code,l)=outD D))
theorem HeightsP.vals {D:Ap} {w:World} {e:Ending} {V:World} (h:HeightsP D w e V) (hg:D.good=true):Below w.heap.size w V/\∃ (code:Int) (l:List (Int×Int)) (A:Option Addr) (c:Nat),e=.returned (.tuple #[.slice A l.length c,.int .i64 code])/\Ad V A (Am l)/\(code,l)=outD D:=by
 refine ⟨h.1,?_⟩;unfold outD;rw [if_pos hg];rcases h.2 with ⟨h1,rfl⟩ | ⟨h1,A,c,rfl,h3⟩
 ·rw [if_pos h1];exact ⟨41,[],none,0,rfl,fun h=>absurd h (by simp [Am]),rfl⟩
 ·rw [if_neg h1];exact ⟨0,_,A,c,by rw [heightsF_len],h3,rfl⟩
attribute [local go_sem ↓] Hp Dm Bu
theorem bheights_any (st:Int) (b:Al) (z:Df) (H E:List EvD) (A1 A2 A3:Option Addr) (c1 c2 n3 c3:Nat) (w:World) (hb:Fa w b z) (hR:Hk b H E) (r1:Gg w A1 H) (r2:Gg w A2 E) :
  Calls Tryz.prog 10 #[.agg (b.arr z),Dv A1 H.length c1 A2 E.length c2 A3 n3 c3,.int .i64 st] w (BHP b st H E w):=by
 have HBD:=Hd (fun (hst:inB st 0 1=false) (X:World) (h:Below w.heap.size w X) (AS:Option Addr) (cS:Nat) (hS:Ad X AS (Ac [st]))=>stories_bad st hst b z H E A1 A2 A3 c1 c2 n3 c3 AS cS X (hb.below h) hR (r1.below h) (r2.below h) hS)
 have HOK:=Hd (fun (hst:st=0\/st=1) (X:World) (h:Below w.heap.size w X) (AS:Option Addr) (cS:Nat) (hS:Ad X AS (Ac [st]))=>stories_any st hst b z H E A1 A2 A3 c1 c2 n3 c3 AS cS X (hb.below h) hR (r1.below h) (r2.below h) hS)
 have HDK:=Hd (fun (D:Ap) (h:TellD b st (ixS st) H E D)=>hR.ok h.start h.hp h.sr)
 unfold Dv at *;obtain ⟨W,hW⟩:∃ W,(w.alloc (.cells (b.arr z) 41)).alloc (.cells #[.slice A1 H.length c1,.slice A2 E.length c2,.slice A3 n3 c3] 49)=W:=⟨_,rfl⟩;have hbW:Below w.heap.size w W:=by rw [<- hW];exact Ba.alloc (by simp) _
 have X:Bk W w.heap.size 41 (b.arr z):=by rw [<- hW];exact (Aa rfl).alloc _
 have Y:Bk W (w.heap.size+1) 49 #[.slice A1 H.length c1,.slice A2 E.length c2,.slice A3 n3 c3]:=by rw [<- hW];exact Aa (by simp)
 have HBW:=Hd hbW;have HW:=Hd hW;have l41:=Ce X rfl;have l49:=Ct Y rfl;have hbr:Below W.heap.size W (W.alloc (.cells #[.int .i64 st] 3)):=Ba;have hrow:Ad (W.alloc (.cells #[.int .i64 st] 3)) (some ⟨W.heap.size,0,none⟩) (Ac [st]):=fun _=>⟨_,0,rfl,by simp,fun j u hu=>by
  have hk:Bk (W.alloc (.cells #[.int .i64 st] 3)) W.heap.size 3 #[.int .i64 st]:=Aa rfl;rw [Nat.zero_add,hk.cell j]
  simpa [Ac] using hu⟩
 have HRW:=Hd (Ai (Bc hbW hbr) hrow);clear hW X Y hbW hbr hrow hb hR r1 r2;go_enter Tryz.func10,Tryz.ntmps10;go_upto_region 1 with fail
 rw [HW.out];clear HW;cases hst:inB st 0 1 with
 | false =>
  have HC:=Hd (HBD.out hst _ HRW.out.1 _ 1 HRW.out.2);clear HBD HOK;go_wp2_with (go_at_call 20;refine HC.out.mono ?_;rintro e w3 ⟨rfl,hb3⟩);have HE:Hid (BHP b st H E w (.returned (.tuple #[.slice none 0 0,.int .i64 1])) w3):=Hd ⟨Bc HRW.out.1 hb3,1,[],none,0,rfl,fun h=>absurd h (by simp [Am]),by simp,.inl ⟨hst,rfl,rfl⟩⟩
  go_ret2;exact HE.out
 | true =>
  have hst2:st=0\/st=1:=by
   simp only [inB,Bool.and_eq_true,decide_eq_true_eq] at hst;omega
  have HC:=Hd (HOK.out hst2 _ HRW.out.1 _ 1 HRW.out.2);clear HBD HOK hst2;go_upto_region 2 with (go_at_call 20;refine HC.out.mono ?_;rintro e w3 ⟨hb3,D,hDA,hT,hr⟩;have HB3:=Hd (Ai (Bc HRW.out.1 hb3) (Ai hDA (Ai hT (HDK.out D hT))));clear hb3 hDA hT;rcases hr with ⟨hg,g,c,rfl,hrow⟩ | ⟨hg,rfl⟩)
  ·clear HC l41 l49;have HLA:=Hd (fun (V:World)=>last_any D V)
   have HHT:=Hd (fun (V:World) (h:Below w3.heap.size w3 V)=>(heights_any D HB3.out.2.2.2 hg V (HB3.out.2.1.below h)).mono fun e w' h=>h.vals hg)
   obtain ⟨b6,o6,h6,hb6,hc6⟩:=hrow (by simp [Ap.arr])
   injection h6 with h6
   injection h6 with h6 h7 _
   subst h6 h7;have x0:=hc6 0 (.slice D.A1 D.st.length D.c1) rfl;have x1:=hc6 1 (.slice D.A2 D.hp.length D.c2) rfl;have x2:=hc6 2 (.slice D.A3 D.S.length D.c3) rfl;have x3:=hc6 3 (.slice D.A4 D.R.length D.c4) rfl;simp only [Nat.zero_add] at x0 x1 x2 x3;have s0:w3.drew.cell? ⟨g,0,none⟩=some (.slice D.A1 D.st.length D.c1):=x0;have s1:w3.drew.cell? ⟨g,1,none⟩=some (.slice D.A2 D.hp.length D.c2):=x1;have s2:w3.drew.cell? ⟨g,2,none⟩=some (.slice D.A3 D.S.length D.c3):=x2;have s3:w3.drew.cell? ⟨g,3,none⟩=some (.slice D.A4 D.R.length D.c4):=x3;unfold Ap.arr at *;have HG:=Hd hg;clear hc6 hg;go_upto_region 4 with fail
   have hk5:True:=trivial;have hk6:True:=trivial;go_region_held3 (fun w'=>w'.cell? ⟨g,0,none⟩=some (.slice D.A1 D.st.length D.c1)/\w'.cell? ⟨g,1,none⟩=some (.slice D.A2 D.hp.length D.c2)/\w'.cell? ⟨g,2,none⟩=some (.slice D.A3 D.S.length D.c3)/\w'.cell? ⟨g,3,none⟩=some (.slice D.A4 D.R.length D.c4))
    (refine ⟨?_,?_,?_,?_⟩<;>(repeat (first | with_reducible exact x0 | with_reducible exact x1 | with_reducible exact x2 | with_reducible exact x3 | with_reducible exact s0 | with_reducible exact s1 | with_reducible exact s2 | with_reducible exact s3 | with_reducible refine Ag hk5 ?_ | with_reducible refine Ag hk6 ?_)))
    (first
    | (go_at_call 22;(with_reducible refine (HLA.out _).mono ?_);rintro e w5 ⟨rfl,hk5⟩)
    | (go_at_call 21;(with_reducible refine (HHT.out _ (Bc (bw_drew (Below.refl _ _)) hk5)).mono ?_);rintro e w6 ⟨hk6,code,l,A,c',rfl,hrow6,hcl⟩))
   all_goals
    have hl24:l.length<=24:=by
     have:=outD_len HB3.out.2.2.2;rw [<- hcl] at this;exact this
    have HE:Hid (BHP b st H E w (.returned (.tuple #[.slice A l.length c',.int .i64 code])) w6):=Hd ⟨Bc HB3.out.1 (Bc (Bc (bw_drew (Below.refl _ _)) hk5) hk6),code,l,A,c',rfl,hrow6,hl24,.inr ⟨hst,D,HB3.out.2.2.1,HB3.out.2.2.2,hcl⟩⟩;clear hl24 hcl hrow6;go_wp2_with fail;go_ret2;exact HE.out
  ·have HE:Hid (BHP b st H E w (.returned (.tuple #[.slice none 0 0,.int .i64 2])) w3):=Hd ⟨HB3.out.1,2,[],none,0,rfl,fun h=>absurd h (by simp [Am]),by simp,.inr ⟨hst,D,HB3.out.2.2.1,HB3.out.2.2.2,by unfold outD;rw [hg];rfl⟩⟩
   clear hg HC l41 l49;go_wp2_with fail;go_ret2;exact HE.out
end
section
def Bn (e:EvD):EvD:={ e with note:=e.note.plain }
theorem getD_plain (H:List EvD) (k:Nat):((H.map Bn).getD k ev0).note=((H.getD k ev0).note).plain/\((H.map Bn).getD k ev0).eh=(H.getD k ev0).eh/\((H.map Bn).getD k ev0).en=(H.getD k ev0).en:=by
 simp only [List.getD_eq_getElem?_getD,List.getElem?_map];cases H[k]?<;>exact ⟨rfl,rfl,rfl⟩
theorem heapF_plain (H:List EvD) (a c:Int):heapF (H.map Bn) a c=heapF H a c:=by
 unfold heapF;rw [List.length_map]
 congr 1
 funext k
 rw [(getD_plain H k).2.1,(getD_plain H k).2.2]
theorem heapN_plain (H:List EvD):heapN (H.map Bn)=heapN H:=by
 unfold heapN;rw [List.foldl_map];rfl
theorem heapE_plain (H:List EvD) (a c:Int):Hg (H.map Bn) a c=Hg H a c:=by unfold Hg;rw [heapF_plain]
theorem heapIx_plain (H:List EvD) (a c:Int):Ki (H.map Bn) a c=Ki H a c:=by unfold Ki;rw [heapF_plain]
theorem tellF_plain (b:Al) (st:Int) (cnt:List Int) (H:List EvD) (s:List Bh×List Da) (n:Ab):Fh b st cnt (H.map Bn) s n.plain=Fh b st cnt H s n:=by
 unfold Fh;rw [heapIx_plain];rfl
theorem toldF_plain (b:Al) (st:Int) (cnt:List Int) (H E:List EvD):Hr b st cnt (H.map Bn) (E.map Bn)=Hr b st cnt H E:=by
 unfold Hr;rw [List.foldl_map]
 congr 1
 funext s e
 exact tellF_plain b st cnt H s e.note
theorem hardE_plain (H:List EvD):(H.map Bn).map hardE=H.map hardE:=by rw [List.map_map];rfl
theorem names_evPlain (H:List EvD):(H.map Bn).map (fun e=>(e.eh,e.en))=H.map fun e=>(e.eh,e.en):=by rw [List.map_map];rfl
theorem Hk.plain_iff {b:Al} {H E:List EvD}:Hk b (H.map Bn) (E.map Bn)↔Hk b H E:=by
 constructor
 ·intro h;have mH:∀ e∈H,Bn e∈H.map Bn:=fun e he=>List.mem_map.2 ⟨e,he,rfl⟩
  have mE:∀ e∈E,Bn e∈E.map Bn:=fun e he=>List.mem_map.2 ⟨e,he,rfl⟩
  have mHE:∀ e∈H ++ E,Bn e∈H.map Bn ++ E.map Bn:=fun e he=>by rw [<- List.map_append];exact List.mem_map.2 ⟨e,he,rfl⟩
  refine ⟨h.chk,h.few,⟨by simpa using h.right.h8,by simpa using h.right.e400,fun e he=>?_,?_,fun e he=>(show (Bn e).note.kind=1 from h.right.hk _ (mH e he)),fun e he=>?_⟩,fun e he=>(show (Bn e).note.strokes.length<=200 from h.st200 _ (mHE e he)),fun e he=>?_,by simpa using h.h8,by simpa using h.e10,by rw [<- heapN_plain];exact h.hn,fun e he=>(show (Bn e).note.strokes.length<=100 from h.st _ (mE e he))⟩
  ·have k:=h.right.ok _ (mHE e he);exact ⟨k.1,by rw [<- Kq];exact k.2.1,k.2.2⟩
  ·have k:=h.right.nodup;rw [<- List.map_append,names_evPlain] at k;exact k
  ·have k:=h.right.ek _ (mE e he);exact ⟨k.1,fun h2=>by rw [<- heapE_plain];exact k.2 h2⟩
  ·have k:=h.tell _ (mE e he);exact ⟨k.kind,k.turns,k.ring,k.str⟩
 ·intro h;refine ⟨h.chk,h.few,⟨by simpa using h.right.h8,by simpa using h.right.e400,fun e he=>?_,?_,fun e he=>?_,fun e he=>?_⟩,fun e he=>?_,fun e he=>?_,by simpa using h.h8,by simpa using h.e10,by rw [heapN_plain];exact h.hn,fun e he=>?_⟩
  ·rw [<- List.map_append] at he;obtain ⟨x,hx,rfl⟩:=List.mem_map.1 he;have k:=h.right.ok x hx;exact ⟨k.1,by show Ar b.fr x.note.plain=true;rw [Kq];exact k.2.1,k.2.2⟩
  ·rw [<- List.map_append,names_evPlain];exact h.right.nodup
  ·obtain ⟨x,hx,rfl⟩:=List.mem_map.1 he;exact h.right.hk x hx
  ·obtain ⟨x,hx,rfl⟩:=List.mem_map.1 he;have k:=h.right.ek x hx;exact ⟨k.1,fun h2=>by rw [heapE_plain];exact k.2 h2⟩
  ·rw [<- List.map_append] at he;obtain ⟨x,hx,rfl⟩:=List.mem_map.1 he;exact h.st200 x hx
  ·obtain ⟨x,hx,rfl⟩:=List.mem_map.1 he;have k:=h.tell x hx;exact ⟨k.kind,k.turns,k.ring,k.str⟩
  ·obtain ⟨x,hx,rfl⟩:=List.mem_map.1 he;exact h.st x hx
theorem Hk.congr {b:Al} {H E H' E':List EvD} (h:Hk b H E) (h1:H'.map Bn=H.map Bn) (h2:E'.map Bn=E.map Bn):Hk b H' E' :=
 Hk.plain_iff.1 (by rw [h1,h2];exact Hk.plain_iff.2 h)
theorem TellD.congr {b:Al} {st:Int} {ix:Flr->Nat->Nat->Nat->Nat} {H E H' E':List EvD} {D:Ap} (h:TellD b st ix H' E' D) (h1:H'.map Bn=H.map Bn) (h2:E'.map Bn=E.map Bn):TellD b st ix H E D :=
 ⟨h.start,by rw [h.hp,<- hardE_plain,h1,hardE_plain],by rw [h.sr,<- toldF_plain,h1,h2,toldF_plain]⟩
theorem map_erase {α β:Type} (f:α->β):∀ (l:List α) (k:Nat),(l.map f).eraseIdx k=(l.eraseIdx k).map f
 | [],_=>rfl
 | _ :: _,0=>rfl
 | a :: l,k+1=>by simp only [List.map_cons,List.eraseIdx_cons_succ,map_erase f l k]
theorem again_reg {b:Al} {l L L':List Ab} {H E:List EvD} {out:Ab} {which:Nat} (hR:SetR b l L H E) (hw:which<E.length) (hk:(E[which]).note.kind=3)
  (ho:out.kind=6) (hc:out.clock=1099511627776) (hr:out.ref=((E[which]).eh,(E[which]).en)) (hs:setB b.fr (l ++ [out])=true)
  (hp:(L'.map Ab.plain).Perm (Jv ((l ++ [out]).map Ab.plain))) (ht:L'.Pairwise Dk) :
  ((Bi (L'.map Ay)).1).map Bn=H.map Bn/\((Bi (L'.map Ay)).2).map Bn=(E.eraseIdx which).map Bn:=by
 have hH:=hR.hh;have hE:=hR.ee;have hb:=hR.reg.right.ok;rw [evReg_note] at hH hE;simp only at hH hE;subst hE;have hw2:which<(regOf L).2.length:=by simpa using hw
 have hx:((regOf L).2.map Ay)[which]=Ay ((regOf L).2[which]):=by simp
 have hnd:=Ka hs;rw [List.map_append,List.nodup_append] at hnd;have key:=forget_law (N:=l.map Ab.plain) (L:=L.map Ab.plain) (L':=L'.map Ab.plain) (out:=out.plain) (which:=which) (x:=((regOf L).2[which]).plain)
  (by rw [Gd];exact Ka hR.set) hR.perm (by rw [List.pairwise_map];exact hR.sort.imp fun h=>h) ho
  (by rw [Gd];exact fun h=>hnd.2.2 _ h _ (List.mem_singleton.2 rfl) rfl)
  (fun y hy=>by
   obtain ⟨n,hn,rfl⟩:=List.mem_map.1 hy;have hf:=setB_formed hR.set n hn;unfold Ar at hf;simp only [Bool.and_eq_true,inB,decide_eq_true_eq] at hf;obtain ⟨i,hi,rfl⟩:=List.getElem_of_mem hn;have hrise:=setB_rise hs i l.length hi (by simp)
   rw [Aj _ _ (by simp;omega),Aj _ _ (by simp)] at hrise
   rw [List.getElem_append_left hi,List.getElem_append_right Le] at hrise;simp only [Nat.sub_self,List.getElem_cons_zero] at hrise
   show Dg l[i] out
   unfold Dg;rw [hc]
   by_cases hq:l[i].clock=1099511627776
   ·exact .inr ⟨hq,hrise⟩
   ·left;have:=hf.2.2.1.2;omega)
  (by rw [hx] at hr;exact hr)
  (by rw [regOf_plain];simp [hw2])
  (by rw [hx] at hk;exact hk)
  (by rw [List.map_append] at hp;exact hp) (by rw [List.pairwise_map];exact ht.imp fun h=>h)
 rw [regOf_plain,regOf_plain] at key;injection key with k1 k2
 rw [evReg_note];refine ⟨?_,?_⟩
 ·rw [hH];have:=congrArg (List.map Ay) k1;rw [List.map_map,List.map_map] at this;rw [List.map_map,List.map_map];exact this
 ·have:=congrArg (List.map Ay) k2;rw [List.map_map,map_erase,List.map_map] at this;rw [map_erase,List.map_map,List.map_map];exact this
end
section
def BHV (b:Al) (st:Int) (H E:List EvD) (code:Int) (l:List (Int×Int)):Prop :=
 (inB st 0 1=false/\code=1/\l=[])\/(inB st 0 1=true/\∃ D,TellD b st (ixS st) H E D/\D.Ok/\(code,l)=outD D)
theorem same_out {D D':Ap} (h:SameD D D'):outD D'=outD D:=by
 unfold outD;rw [h.good,h.living,h.heights,h.len]
theorem bhv_same {b:Al} {st:Int} {H E H' E':List EvD} {c c':Int} {l l':List (Int×Int)} (h:BHV b st H E c l) (h':BHV b st H' E' c' l') (h1:H'.map Bn=H.map Bn) (h2:E'.map Bn=E.map Bn):c'=c/\l'=l:=by
 rcases h with ⟨g,rfl,rfl⟩ | ⟨g,D,hT,hD,ho⟩<;>rcases h' with ⟨g',rfl,rfl⟩ | ⟨g',D',hT',hD',ho'⟩
 ·exact ⟨rfl,rfl⟩
 ·rw [g] at g';cases g'
 ·rw [g] at g';cases g'
 ·have:=same_out (hT.same (hT'.congr h1 h2));rw [<- ho,<- ho'] at this;injection this with k1 k2
  exact ⟨k1,k2⟩
theorem bhv_less {b:Al} {st:Int} {H E:List EvD} {i:Nat} {c':Int} {l l':List (Int×Int)} (h:BHV b st H E 0 l) (hi:i<E.length) (hk:(E[i]).note.kind=3) (h':BHV b st H (E.eraseIdx i) c' l') :
  c'=0/\l'.length=l.length/\∀ k,k<l.length->(l'.getD k (0,0)).1<=(l.getD k (0,0)).1/\(l.getD k (0,0)).2<=(l'.getD k (0,0)).2:=by
 rcases h with ⟨g,h0,rfl⟩ | ⟨g,D,hT,hD,ho⟩
 ·cases h0
 rcases h' with ⟨g',rfl,rfl⟩ | ⟨g',D',hT',hD',ho'⟩
 ·rw [g] at g';cases g'
 unfold outD at ho
 split at ho
 ·rename_i hg
  split at ho
  ·cases ho
  ·rename_i hl;injection ho with _ ho
   have hL:=hT.less hi hk hT';obtain ⟨k1,k2,k3,k4⟩:=hL.law hD hD' hg hl;unfold outD at ho';rw [if_pos k1,if_neg k2] at ho';injection ho' with e1 e2
   subst ho e2;refine ⟨e1,?_,fun k hk=>?_⟩
   ·rw [heights_len,heights_len,hL.st]
   ·rw [heights_len] at hk;exact k4 k hk
 ·cases ho
end
section
section
variable {P:Program}
def El (vals:Nat->Value) (done:Nat->Bool):List Oper->Nat->Act->Act
 | [],_,a=>a
 | o :: l,k,a=>El vals done l (k+1) (if done k then a.put o.dst (vals k) else a)
def dstsOff:List Oper->Bool
 | []=>true
 | o :: l=>(match o.dst with | none=>true | some d=>l.all fun p=>decide (p.dst≠some d)) && dstsOff l
theorem fill_put (vals:Nat->Value) (done:Nat->Bool) (d:Option Tmp) (v:Value):∀ (l:List Oper) (k:Nat) (a:Act),(∀ p∈l,∀ t,d=some t->p.dst≠some t)->
  El vals done l k (a.put d v)=(El vals done l k a).put d v
 | [],_,_,_=>rfl
 | o :: l,k,a,h=>by
  unfold El;rw [<- fill_put vals done d v l (k+1) _ (fun p hp=>h p (by simp [hp]))]
  congr 1
  split
  ·exact Act.put_comm a v (vals k) (fun t ht=>h o (by simp) t ht)
  ·rfl
theorem fill_congr {vals vals':Nat->Value} {done done':Nat->Bool}:∀ (l:List Oper) (k:Nat) (a:Act),(∀ j,k<=j->done' j=done j)->(∀ j,k<=j->done j=true->vals' j=vals j)->El vals' done' l k a=El vals done l k a
 | [],_,_,_,_=>rfl
 | o :: l,k,a,h1,h2=>by
  unfold El;rw [fill_congr l (k+1) _ (fun j hj=>h1 j (by omega)) (fun j hj=>h2 j (by omega)),h1 k Le]
  congr 1
  split
  ·rename_i hd;rw [h2 k Le hd]
  ·rfl
def Cu {α:Type} (f:Nat->α) (i:Nat) (v:α):Nat->α:=fun j=>if j=i then v else f j
theorem updS_at {α:Type} (f:Nat->α) (i:Nat) (v:α):Cu f i v i=v:=if_pos rfl
theorem updS_ne {α:Type} (f:Nat->α) {i j:Nat} (v:α) (h:j≠i):Cu f i v j=f j:=if_neg h
theorem fill_step (vals:Nat->Value) (done:Nat->Bool) (v:Value):∀ (l:List Oper) (k i:Nat) (a:Act) (o:Oper),dstsOff l=true->k<=i->l[i - k]?=some o->done i=false ->
  El (Cu vals i v) (Cu done i true) l k a=(El vals done l k a).put o.dst v
 | [],k,i,_,_,_,_,h,_=>by simp at h
 | p :: l,k,i,a,o,hd,hk,ho,hi=>by
  unfold dstsOff at hd;simp only [Bool.and_eq_true] at hd;unfold El
  by_cases hik:k=i
  ·subst hik;simp only [Nat.sub_self,List.getElem?_cons_zero,Option.some.injEq] at ho;subst ho;rw [updS_at,updS_at,hi,if_pos rfl,if_neg (by decide)]
   rw [fill_congr l (k+1) _ (fun j hj=>updS_ne done true (by omega)) (fun j hj _=>updS_ne vals v (by omega))]
   refine fill_put vals done p.dst v l (k+1) a fun q hq t ht=>?_
   rw [ht] at hd;simp only [List.all_eq_true,decide_eq_true_eq] at hd;exact hd.1 q hq
  ·have e:i - k=(i - (k+1))+1:=by omega
   rw [e,List.getElem?_cons_succ] at ho;rw [updS_ne done true hik,updS_ne vals v hik];exact fill_step vals done v l (k+1) i _ o hd.2 (by omega) ho hi
theorem put_size (a:Act) (d:Option Tmp) (v:Value):(a.put d v).tmps.size=a.tmps.size:=by cases d<;>simp [Act.put]
theorem fill_eval_ne (vals:Nat->Value) (done:Nat->Bool) (x:Operand):∀ (l:List Oper) (k:Nat) (a:Act),(∀ o∈l,∀ d,o.dst=some d->x≠.tmp d)->(El vals done l k a).eval x=a.eval x
 | [],_,_,_=>rfl
 | o :: l,k,a,h=>by
  unfold El;rw [fill_eval_ne vals done x l (k+1) _ (fun o ho=>h o (by simp [ho]))]
  split
  ·exact Act.eval_put (h o (by simp))
  ·rfl
theorem eval_put_same (a:Act) {t:Tmp} (v:Value) (ht:t<a.tmps.size):(a.put (some t) v).eval (.tmp t)=v:=by
 simp [Act.put,Act.eval,ht]
theorem fill_eval (vals:Nat->Value) (done:Nat->Bool) (t:Tmp):∀ (l:List Oper) (k i:Nat) (a:Act) (o:Oper),dstsOff l=true->k<=i->l[i - k]?=some o->o.dst=some t->t<a.tmps.size->done i=true ->
  (El vals done l k a).eval (.tmp t)=vals i
 | [],k,i,_,_,_,_,h,_,_,_=>by simp at h
 | p :: l,k,i,a,o,hd,hk,ho,ht,hs,hi=>by
  unfold dstsOff at hd;simp only [Bool.and_eq_true] at hd;unfold El
  by_cases hik:k=i
  ·subst hik;simp only [Nat.sub_self,List.getElem?_cons_zero,Option.some.injEq] at ho;subst ho;rw [hi,if_pos rfl,ht];rw [ht] at hd;simp only [List.all_eq_true,decide_eq_true_eq] at hd;rw [fill_eval_ne vals done (.tmp t) l (k+1) _ (fun q hq d hqd e=>hd.1 q hq (by injection e with e;rw [hqd,e]))]
   exact eval_put_same a _ hs
  ·have e:i - k=(i - (k+1))+1:=by omega
   rw [e,List.getElem?_cons_succ] at ho;exact fill_eval vals done t l (k+1) i _ o hd.2 (by omega) ho ht (by split<;>simp [put_size,hs]) hi
def edgesOk:List Oper->Nat->Bool
 | [],_=>true
 | o :: l,k=>(o.guard.isNone) && (o.after.toList.all fun e=>!Region.binds .any e || decide (e.on<k)) && edgesOk l (k+1)
theorem edges_at:∀ (l:List Oper) (k i:Nat) (o:Oper),edgesOk l k=true->k<=i->l[i - k]?=some o->o.guard=none/\∀ e∈o.after,Region.binds .any e=true->e.on<i
 | [],k,i,_,_,_,h=>by simp at h
 | p :: l,k,i,o,he,hk,ho=>by
  unfold edgesOk at he;simp only [Bool.and_eq_true] at he
  by_cases hik:k=i
  ·subst hik;simp only [Nat.sub_self,List.getElem?_cons_zero,Option.some.injEq] at ho;subst ho;refine ⟨by simpa using he.1.1,fun e hm hb=>?_⟩
   have h:=he.1.2;simp only [List.all_eq_true,Bool.or_eq_true,Bool.not_eq_true',decide_eq_true_eq] at h;rcases h e (by simpa using hm) with h | h
   ·rw [hb] at h;cases h
   ·exact h
  ·have e:i - k=(i - (k+1))+1:=by omega
   rw [e,List.getElem?_cons_succ] at ho;exact edges_at l (k+1) i o he.2 (by omega) ho
def leftS (listed:Array Bool):Nat:=listed.toList.countP (· == false)
theorem left_set {listed:Array Bool} {i:Nat} (hi:i<listed.size) (h:listed.getD i true=false):leftS (listed.setIfInBounds i true)+1=leftS listed:=by
 unfold leftS;have hl:listed.toList[i]?=some false:=by
  rw [Array.getElem?_toList,Array.getElem?_eq_getElem hi]
  simpa [hi] using h
 have key:∀ (l:List Bool) (i:Nat),l[i]?=some false->(l.set i true).countP (· == false)+1=l.countP (· == false):=by
  intro l
  induction l with
  | nil=>intro i h;simp at h
  | cons b l ih =>
   intro i h;cases i with
   | zero =>
    simp only [List.getElem?_cons_zero,Option.some.injEq] at h;subst h;simp
   | succ i =>
    simp only [List.getElem?_cons_succ] at h;have:=ih i h;simp only [List.set_cons_succ,List.countP_cons];omega
 rw [Array.toList_setIfInBounds];exact key _ _ hl
theorem left_zero {listed:Array Bool} (h:leftS listed=0) (i:Nat):listed.getD i true=true:=by
 unfold leftS at h;rw [List.countP_eq_zero] at h
 by_cases hi:i<listed.size
 ·have:=h (listed[i]) (by simp)
  simp only [beq_iff_eq,Bool.not_eq_false] at this
  simpa [hi] using this
 ·simp [hi]
theorem ready_none {ops:List Oper} {listed:Array Bool} (he:edgesOk ops 0=true) (hs:listed.size=ops.length) (h:Region.ready .any ops.toArray listed=[]):∀ i,listed.getD i true=true:=by
 intro i
 induction i using Nat.strongRecOn with
 | _ i ih =>
  cases hl:listed.getD i true with
  | true=>rfl
  | false =>
   have hi:i<ops.length:=by
    rcases Nat.lt_or_ge i listed.size with h1 | h1
    ·omega
    ·simp [Nat.not_lt.2 h1] at hl
   have:i∈Region.ready .any ops.toArray listed:=by
    refine mem_ready.2 ⟨hl,ops[i],by simp [hi],fun e hm hb=>?_⟩
    have h1:=(edges_at ops 0 i ops[i] he (by omega) (by simp [hi])).2 e hm hb
    have h2:=ih e.on h1;have h3:e.on<listed.size:=by omega
    simpa [h3] using h2
   rw [h] at this;cases this
abbrev SetInv:=(Nat->Bool)->(Nat->Value)->World->Prop
theorem wpAny_of_set {ops:List Oper} {a0:Act} {Q:Exit->Act->World->Prop} (J:SetInv) (he:edgesOk ops 0=true) (hd:dstsOff ops=true)
  (hstep:∀ i o done vals w,ops[i]?=some o->done i=false->(∀ e∈o.after,Region.binds .any e=true->done e.on=true)->J done vals w ->
   Oper.wp P o (El vals done ops 0 a0) w (fun a' w'=>∃ v,a'=(El vals done ops 0 a0).put o.dst v/\J (Cu done i true) (Cu vals i v) w') Q)
  (hend:∀ vals w,J (fun _=>true) vals w->Q .normal (El vals (fun _=>true) ops 0 a0) w) :
  ∀ (fuel:Nat) (listed:Array Bool) (vals:Nat->Value) (w:World),listed.size=ops.length->leftS listed=fuel->J (fun i=>listed.getD i true) vals w ->
   wpAny P .any ops.toArray Q fuel listed (El vals (fun i=>listed.getD i true) ops 0 a0) w:=by
 intro fuel
 induction fuel with
 | zero =>
  intro listed vals w hs hl hJ;have hall:=left_zero hl;have e:(fun i=>listed.getD i true)=fun _=>true:=funext hall
  rw [e] at hJ ⊢;refine ⟨?_,hend vals w hJ⟩;cases hr:Region.ready .any ops.toArray listed with
  | nil=>rfl
  | cons i l =>
   have:=(mem_ready.1 (show i∈Region.ready .any ops.toArray listed by rw [hr];simp)).1
   rw [hall i] at this;cases this
 | succ fuel ih =>
  intro listed vals w hs hl hJ;refine ⟨fun hr=>?_,fun i hi=>?_⟩
  ·have hall:=ready_none he hs hr;have e:(fun i=>listed.getD i true)=fun _=>true:=funext hall
   rw [e] at hJ ⊢;exact hend vals w hJ
  ·obtain ⟨hun,o,ho,hall⟩:=mem_ready.1 hi;have ho':ops[i]?=some o:=by simpa using ho
   have hlt:i<ops.length:=(List.getElem?_eq_some_iff.1 ho').1;have hgd:=(edges_at ops 0 i o he (by omega) ho').1
   have h:=hstep i o (fun i=>listed.getD i true) vals w ho' hun (fun e hm hb=>by
    have h1:=hall e hm hb;exact by
     cases hx:listed.getD e.on true with
     | true=>rfl
     | false=>rw [getD_both hx] at h1;cases h1) hJ
   unfold wpOp;rw [ho];have hw:Region.wanted o (yielded ops.toArray (El vals (fun i=>listed.getD i true) ops 0 a0).tmps)=true:=by simp [Region.wanted,hgd]
   show if Region.wanted o _=true then _ else _
   rw [if_pos hw];refine .inl (Oper.wp_mono (fun a' w' hq=>?_) h)
   obtain ⟨v,rfl,hJ'⟩:=hq;have e:Cu (fun i=>listed.getD i true) i true=fun j=>(listed.setIfInBounds i true).getD j true:=by
    funext j
    by_cases hj:j=i
    ·subst hj;rw [updS_at];simp [hs,hlt]
    ·rw [updS_ne _ _ hj,Go.getD_set_ne true (Ne.symm hj)]
   rw [<- fill_step vals _ v ops 0 i a0 o hd (Nat.zero_le _) ho' hun,e];rw [e] at hJ';refine ih _ _ _ (by simpa using hs) ?_ hJ'
   have:=left_set (by omega) hun
   omega
theorem left_replicate (n:Nat):leftS (Array.replicate n false)=n:=by
 unfold leftS;rw [Array.toList_replicate,List.countP_replicate];rfl
theorem wp_region_set {id:Nat} {ops:List Oper} {a:Act} {w:World} {Q:Exit->Act->World->Prop} (J:SetInv) (hm:P.follows .mixedOrders=true) (he:edgesOk ops 0=true) (hd:dstsOff ops=true)
  (h0:J (fun i=>decide (ops.length<=i)) (fun _=>undef) { w with drawn:=w.drawn+1 })
  (hstep:∀ i o done vals w,ops[i]?=some o->done i=false->(∀ e∈o.after,Region.binds .any e=true->done e.on=true)->J done vals w ->
   Oper.wp P o (El vals done ops 0 a) w (fun a' w'=>∃ v,a'=(El vals done ops 0 a).put o.dst v/\J (Cu done i true) (Cu vals i v) w') Q)
  (hend:∀ vals w,J (fun _=>true) vals w->Q .normal (El vals (fun _=>true) ops 0 a) w):(Code.region id ops.toArray true).wp P Q a w:=by
 refine wp_region_any hm ?_;have e:(fun i=>decide (ops.length<=i))=fun i=>(Array.replicate ops.length false).getD i true:=by
  funext i
  by_cases hi:ops.length<=i
  ·simp [hi]
  ·simp [hi,Nat.lt_of_not_ge hi]
 have e2:∀ (l:List Oper) (k:Nat) (b:Act),(∀ j,k<=j->j<k+l.length->decide (ops.length<=j)=false)->El (fun _=>undef) (fun i=>decide (ops.length<=i)) l k b=b:=by
  intro l
  induction l with
  | nil=>intro k b _;rfl
  | cons o l ih =>
   intro k b h;unfold El;rw [h k Le (by simp),if_neg (by decide)]
   exact ih (k+1) b fun j h1 h2=>h j (by omega) (by simp at h2 ⊢;omega)
 have h:=wpAny_of_set (P:=P) (a0:=a) (Q:=Q) J he hd hstep hend ops.length (Array.replicate ops.length false) (fun _=>undef) { w with drawn:=w.drawn+1 } (by simp) (left_replicate _) (by rw [<- e];exact h0)
 rw [<- e,e2 ops 0 a (fun j _ h2=>by simp at h2 ⊢;omega)] at h
 simpa using h
def waitsS (o:Oper) (done:Nat->Bool):Prop:=∀ e∈o.after,Region.binds .any e=true->done e.on=true
def stepsS (P:Program) (J:SetInv) (ops:List Oper) (a:Act) (Q:Exit->Act->World->Prop):List Oper->Nat->Prop
 | [],_=>True
 | o :: l,i=>(∀ done vals w,done i=false->waitsS o done->J done vals w ->
   Oper.wp P o (El vals done ops 0 a) w (fun a' w'=>∃ v,a'=(El vals done ops 0 a).put o.dst v/\J (Cu done i true) (Cu vals i v) w') Q)/\stepsS P J ops a Q l (i+1)
theorem stepsS_at {J:SetInv} {ops:List Oper} {a:Act} {Q:Exit->Act->World->Prop}:∀ (l:List Oper) (k:Nat),stepsS P J ops a Q l k->∀ i o done vals w,k<=i->l[i - k]?=some o->done i=false->waitsS o done->J done vals w ->
  Oper.wp P o (El vals done ops 0 a) w (fun a' w'=>∃ v,a'=(El vals done ops 0 a).put o.dst v/\J (Cu done i true) (Cu vals i v) w') Q
 | [],k,_,i,_,_,_,_,_,h,_,_,_=>by simp at h
 | p :: l,k,hs,i,o,done,vals,w,hk,ho,hd,hw,hJ=>by
  obtain ⟨h1,h2⟩:=hs
  by_cases hik:k=i
  ·subst hik;simp only [Nat.sub_self,List.getElem?_cons_zero,Option.some.injEq] at ho;subst ho;exact h1 done vals w hd hw hJ
  ·have e:i - k=(i - (k+1))+1:=by omega
   rw [e,List.getElem?_cons_succ] at ho;exact stepsS_at l (k+1) h2 i o done vals w (by omega) ho hd hw hJ
theorem wp_region_steps {id:Nat} {ops:List Oper} {a:Act} {w:World} {Q:Exit->Act->World->Prop} (J:SetInv) (hm:P.follows .mixedOrders=true) (he:edgesOk ops 0=true) (hd:dstsOff ops=true)
  (h0:J (fun i=>decide (ops.length<=i)) (fun _=>undef) { w with drawn:=w.drawn+1 }) (hst:stepsS P J ops a Q ops 0)
  (hend:∀ vals w,J (fun _=>true) vals w->Q .normal (El vals (fun _=>true) ops 0 a) w):(Code.region id ops.toArray true).wp P Q a w :=
 wp_region_set J hm he hd h0 (fun i o done vals w ho hdn hw hJ=>stepsS_at ops 0 hst i o done vals w (Nat.zero_le _) ho hdn hw hJ) hend
theorem Cc {J:SetInv} {o:Oper} {a:Act} {w w':World} {Q:Exit->Act->World->Prop} {d':Nat->Bool} {f:Value->Nat->Value} {v:Value} (h:(execOp a.eval o).run P w=.ok (.value v) w') (hJ:J d' (f v) w') :
  Oper.wp P o a w (fun a' w'=>∃ v,a'=a.put o.dst v/\J d' (f v) w') Q:=by
 unfold Oper.wp;rw [h];exact ⟨v,rfl,hJ⟩
theorem set_skip {J:SetInv} {o:Oper} {a:Act} {w w':World} {Q:Exit->Act->World->Prop} {d':Nat->Bool} {f:Value->Nat->Value} (h:(execOp a.eval o).run P w=.ok .skip w') (hJ:J d' (f undef) w') :
  Oper.wp P o a w (fun a' w'=>∃ v,a'=a.put o.dst v/\J d' (f v) w') Q:=by
 unfold Oper.wp;rw [h];exact ⟨undef,rfl,hJ⟩
theorem set_enter {J:SetInv} {o:Oper} {a:Act} {w w':World} {Q:Exit->Act->World->Prop} {d':Nat->Bool} {f:Value->Nat->Value} {g:FuncId} {args:Array Value} (h:(execOp a.eval o).run P w=.ok (.enter g args) w')
  (hc:Calls P g args w' fun e w''=>∃ v,e=.returned v/\J d' (f v) w'') :
  Oper.wp P o a w (fun a' w'=>∃ v,a'=a.put o.dst v/\J d' (f v) w') Q:=by
 unfold Oper.wp;rw [h];refine Calls.mono hc ?_;rintro e w'' ⟨v,rfl,hJ⟩;exact ⟨v,rfl,hJ⟩
theorem Cl {ops:List Oper} {a:Act} {vals:Nat->Value} {done:Nat->Bool} (i:Nat) {t:Tmp} (hd:dstsOff ops=true) (h:(ops[i]?).bind (·.dst)=some t) (hs:t<a.tmps.size) (hi:done i=true):(El vals done ops 0 a).eval (.tmp t)=vals i:=by
 cases ho:ops[i]? with
 | none=>rw [ho] at h;cases h
 | some o =>
  rw [ho] at h;exact fill_eval vals done t ops 0 i a o hd (Nat.zero_le _) ho h hs hi
theorem fill_old {ops:List Oper} {a:Act} {vals:Nat->Value} {done:Nat->Bool} {t:Tmp} (h:(ops.all fun o=>decide (o.dst≠some t))=true):(El vals done ops 0 a).eval (.tmp t)=a.eval (.tmp t) :=
 fill_eval_ne vals done _ ops 0 a fun o ho d hd e=>by
  have:=List.all_eq_true.1 h o ho;simp only [decide_eq_true_eq] at this;injection e with e
  exact this (by rw [hd,e])
section
variable {o:Oper} {ρ:Operand->Value} {X X':World}
theorem ex_move {x:Operand} {v:Value} (ho:o.op=.move x) (hx:ρ x=v):(execOp ρ o).run P X=.ok (.value v) X:=by
 unfold execOp;rw [ho,<- hx];rfl
theorem ex_assign {x:Operand} {v:Value} (ho:o.op=.assign x) (hx:ρ x=v):(execOp ρ o).run P X=.ok (.value v) X:=by
 unfold execOp;rw [ho,<- hx];rfl
theorem ex_load {t:TypeId} {x:Operand} {u v:Value} (ho:o.op=.load t x) (hx:ρ x=u) (h:(Instr.loadAt t u).run P X=.ok v X'):(execOp ρ o).run P X=.ok (.value v) X':=by
 unfold execOp;rw [ho];simp [hx,h]
theorem ex_store {t:TypeId} {x y:Operand} {u v:Value} (ho:o.op=.store t x y) (hx:ρ x=u) (hy:ρ y=v) (h:(Instr.storeAt t u v).run P X=.ok () X'):(execOp ρ o).run P X=.ok .skip X':=by
 unfold execOp;rw [ho];simp [hx,hy,h]
theorem ex_alloc {t:TypeId} {v:Value} (ho:o.op=.alloc t) (h:(Instr.alloc t true (.tuple #[])).run P X=.ok v X'):(execOp ρ o).run P X=.ok (.value v) X':=by
 unfold execOp;rw [ho];simp [h]
theorem ex_extract {x:Operand} {n:Nat} {u v:Value} (ho:o.op=.extract x n) (hx:ρ x=u) (h:(Instr.extract u n).run P X=.ok v X'):(execOp ρ o).run P X=.ok (.value v) X':=by
 unfold execOp;rw [ho];simp [hx,h]
theorem ex_fieldAddr {t:TypeId} {x:Operand} {n:Nat} {u v:Value} (ho:o.op=.fieldAddr t x n) (hx:ρ x=u) (h:(Instr.fieldAt t u n).run P X=.ok v X'):(execOp ρ o).run P X=.ok (.value v) X':=by
 unfold execOp;rw [ho];simp [hx,h]
theorem ex_slice {t:TypeId} {x:Operand} {lo hi mx:Option Operand} {u v:Value} {l h m:Option Value} (ho:o.op=.slice t x lo hi mx) (hx:ρ x=u) (hl:lo.map ρ=l) (hh:hi.map ρ=h) (hm:mx.map ρ=m) (hr:(Instr.sliceAt t u l h m).run P X=.ok v X'):(execOp ρ o).run P X=.ok (.value v) X':=by
 unfold execOp;rw [ho];simp [hx,hl,hh,hm,hr]
theorem ex_build0 {t:TypeId} {n:Nat} {v:Value} (ho:o.op=.buildSlice t n #[]) (h:(Instr.buildSlice t n #[]).run P X=.ok v X'):(execOp ρ o).run P X=.ok (.value v) X':=by
 unfold execOp;rw [ho];simp [h]
theorem ex_build1 {t:TypeId} {n i:Nat} {x:Operand} {u v:Value} (ho:o.op=.buildSlice t n #[(i,x)]) (hx:ρ x=u) (h:(Instr.buildSlice t n #[(i,u)]).run P X=.ok v X'):(execOp ρ o).run P X=.ok (.value v) X':=by
 unfold execOp;rw [ho];simp [hx,h]
theorem ex_binOp {op:BinOp} {t t':TypeId} {x y:Operand} {u v r:Value} (ho:o.op=.binOp op t x y t') (hx:ρ x=u) (hy:ρ y=v) (h:(do eqGuard op t x y u v;binOp op t u v:Sem Value).run P X=.ok r X'):(execOp ρ o).run P X=.ok (.value r) X':=by
 unfold execOp;rw [ho];simp only [hx,hy];rw [Sem.run_bind,h];rfl
theorem ex_append {s x:Operand} {ts:Array TypeId} {u v r:Value} (ho:o.op=.call { callee:=.builtin .append,args:=#[s,x],argTypes:=ts }) (hs:ρ s=u) (hx:ρ x=v) (h:(Builtin.append_ ts o.type #[u,v]).run P X=.ok r X'):(execOp ρ o).run P X=.ok (.value r) X':=by
 unfold execOp;simp [ho,resolve,invoke,builtin,hs,hx,h,Result.andThen]
theorem callF_enter {f : FuncId} {fn : Func} {c : Code} (hf : P.funcs[f]? = some fn) (hname : (fn.name == "runtime.NumGoroutine") = false) (hb : fn.body = some c) (args : Array Value) (w : World) :
  (callFunc f args).run P w=.ok (.enter f args) w:=by
 have h1 : ¬ fn.name = "runtime.NumGoroutine" := by simpa using hname
 simp [callFunc,hf,h1,hb]
theorem ex_call2 {g:FuncId} {x y:Operand} {ts:Array TypeId} {u v:Value} (ho:o.op=.call { callee:=.value (.func g),args:=#[x,y],argTypes:=ts }) (hf:ρ (.func g)=.func (.func g) #[] #[]) (hx:ρ x=u) (hy:ρ y=v) (hc:(callFunc g #[u,v]).run P X=.ok (.enter g #[u,v]) X):(execOp ρ o).run P X=.ok (.enter g #[u,v]) X:=by
 unfold execOp;simp [ho,resolve,Deferred.ofValue,invoke,hf,hx,hy,Result.andThen,hc]
end
end
end
section
theorem Fp {w X Y:World} (h:Below w.heap.size w X) (k:Below X.heap.size X Y):Below w.heap.size w Y:=h.trans (k.mono h.size)
theorem Ad.of_heap' {w w':World} {A:Option Addr} {xs:List Value} (h:Ad w A xs) (he:∀ b off,0<xs.length->(∀ j u,xs[j]?=some u->w.cell? ⟨b,off+j,none⟩=some u)->w'.heap[b]?=w.heap[b]?) (hs:w.heap.size<=w'.heap.size):Ad w' A xs:=fun h0=>by
 obtain ⟨b,off,rfl,h1,h2⟩:=h h0;have:=he b off h0 h2;refine ⟨b,off,rfl,by omega,fun j u hu=>?_⟩
 have h3:=h2 j u hu;simp only [World.cell?] at h3 ⊢;rw [this];exact h3
theorem Fc.off {n:Nat} {w w':World} {A:Option Addr} {H:List EvD} (h:Fc n w A H) {p:Nat} {old:Array Value} (hp:Bk w p 49 old) (h3:old.size=3) (hk:∀ k,k≠p->w'.heap[k]?=w.heap[k]?) (hs:w.heap.size<=w'.heap.size):Fc n w' A H:=by
 have hn:∀ e∈H,e.note.At w'/\e.note.StrT w':=fun e he=>Gn ⟨h.row.str e he,h.st e he⟩ (fun k t' cs' hkb ht'=>by
  subst ht';refine hk k ?_;rintro rfl;have:=hkb.symm.trans hp;simp at this) hs
 refine ⟨⟨?_,fun e he=>(hn e he).1⟩,h.lo,fun e he=>(hn e he).2⟩
 have hl:(Ak H).length=H.length*21:=Ci EvD.cells 21 (fun _=>rfl) H
 refine Ad.of_heap' h.row.row (fun b off hb0 hc=>hk b ?_) hs
 rintro rfl;have h20:20<(Ak H).length:=by rw [hl];rw [hl] at hb0;omega
 have:=hc 20 _ (List.getElem?_eq_getElem h20);rw [hp.cell] at this;have:=(Array.getElem?_eq_some_iff.1 this).1;omega
def FoldU (f:FrD) (l:List Ab) (code:Int) (A1:Option Addr) (n1:Nat) (A2:Option Addr) (n2:Nat) (w':World):Prop :=
 (setB f l=false/\code=1)\/(setB f l=true/\code=0/\∃ L:List Ab,(L.map Ab.plain).Perm (Jv (l.map Ab.plain))/\L.Pairwise Dk/\Fc 0 w' A1 (Bi (L.map Ay)).1/\Fc 0 w' A2 (Bi (L.map Ay)).2/\n1=(Bi (L.map Ay)).1.length/\n2=(Bi (L.map Ay)).2.length)
theorem FoldU.keep {f:FrD} {l:List Ab} {code:Int} {A1 A2:Option Addr} {n1 n2:Nat} {w w':World} (h:FoldU f l code A1 n1 A2 n2 w) (hk:∀ (A:Option Addr) (H:List EvD),Fc 0 w A H->Fc 0 w' A H):FoldU f l code A1 n1 A2 n2 w':=by
 rcases h with h | ⟨h1,h2,L,h3,h4,h5,h6,h7⟩
 ·exact .inl h
 ·exact .inr ⟨h1,h2,L,h3,h4,hk _ _ h5,hk _ _ h6,h7⟩
theorem FoldP.valu {f:FrD} {l:List Ab} {w w':World} {e:Ending} (h:FoldP f l w e w'):Below w.heap.size w w'/\∃ (A1:Option Addr) (n1 c1:Nat) (A2:Option Addr) (n2 c2:Nat) (A3:Option Addr) (n3 c3:Nat) (code:Int),e=.returned (.tuple #[.agg #[.slice A1 n1 c1,.slice A2 n2 c2,.slice A3 n3 c3],.int .i64 code])/\FoldU f l code A1 n1 A2 n2 w':=by
 refine ⟨h.1,?_⟩;rcases h.2 with ⟨h1,rfl⟩ | ⟨h1,L,A1,c1,A2,c2,A3,n3,c3,h2,h3,_,_,h4,h5,rfl⟩
 ·exact ⟨_,_,_,_,_,_,_,_,_,_,rfl,.inl ⟨h1,rfl⟩⟩
 ·exact ⟨_,_,_,_,_,_,_,_,_,_,rfl,.inr ⟨h1,rfl,L,h2,h3,h4.mono (Nat.zero_le _),h5.mono (Nat.zero_le _),rfl,rfl⟩⟩
def tupAt (i:Nat):Value->Value
 | .tuple xs=>xs.getD i undef
 | _=>undef
structure R6 (V2:World) (f:FrD) (A:Option Addr) (c:Nat) (l:List Ab) (out:Ab) (done:Nat->Bool) (vals:Nat->Value) (X:World):Prop where
 bl:Below V2.heap.size V2 X
 o6:done 6=true->done 3=true
 o7:done 7=true->done 6=true
 o8:done 8=true->done 7=true
 o9:done 9=true->done 7=true
 o10:done 10=true->done 7=true
 o12:done 12=true->done 9=true/\done 11=true
 o13:done 13=true->done 10=true
 c0:done 0=true->vals 0=f.val
 c2:done 2=true->vals 2=.slice A l.length c
 c4:done 4=true->vals 4=.agg out.arr
 b1:done 1=true->done 3=false->∃ g,vals 1=.slice (some ⟨g,0,none⟩) 0 0/\V2.heap.size<=g/\Bk X g 68 #[]
 b5:done 5=true->done 6=false->∃ q,vals 5=.slice (some ⟨q,0,none⟩) 1 1/\Bk X q 68 out.arr
 a3:done 3=true->done 6=false->X.ownsRow V2.heap.size 68 19 (vals 3) l.length (Aw l)
 a6:done 6=true->done 7=false->∃ A6 c6,vals 6=.slice A6 (l.length+1) c6/\Ad X A6 (Aw (l ++ [out]))
 k7:done 7=true->∃ (A1:Option Addr) (n1 c1:Nat) (A2:Option Addr) (n2 c2:Nat) (A3:Option Addr) (n3 c3:Nat) (code:Int),vals 7=.tuple #[.agg #[.slice A1 n1 c1,.slice A2 n2 c2,.slice A3 n3 c3],.int .i64 code]/\FoldU f (l ++ [out]) code A1 n1 A2 n2 X
 m8:done 8=true->vals 8=vals 7
 e9:done 9=true->vals 9=tupAt 0 (vals 7)
 e10:done 10=true->vals 10=tupAt 1 (vals 7)
 p11:done 11=true->∃ (p:Nat) (cs:Array Value),vals 11=.pointer (some ⟨p,0,none⟩)/\V2.heap.size<=p/\cs.size=3/\Bk X p 49 cs/\(done 12=true->vals 9=.agg cs)
 c13:done 13=true->vals 13=vals 10
section
variable {V2:World} {f:FrD} {A:Option Addr} {c:Nat} {l:List Ab} {out:Ab} {done:Nat->Bool} {vals:Nat->Value} {X X':World}
theorem R6.below (h:R6 V2 f A c l out done vals X) (hb:Below X.heap.size X X'):R6 V2 f A c l out done vals X' :=
 { h with
  bl:=Fp h.bl hb
  b1:=fun h1 h2=>by obtain ⟨g,e,hg,hk⟩:=h.b1 h1 h2;exact ⟨g,e,hg,hk.keep hb⟩
  b5:=fun h1 h2=>by obtain ⟨g,e,hk⟩:=h.b5 h1 h2;exact ⟨g,e,hk.keep hb⟩
  a3:=fun h1 h2=>Ca (h.a3 h1 h2) hb
  a6:=fun h1 h2=>by obtain ⟨A6,c6,e,hk⟩:=h.a6 h1 h2;exact ⟨A6,c6,e,hk.below hb⟩
  k7:=fun h1=>by obtain ⟨A1,n1,c1,A2,n2,c2,A3,n3,c3,code,e,hk⟩:=h.k7 h1;exact ⟨A1,n1,c1,A2,n2,c2,A3,n3,c3,code,e,hk.keep fun _ _ ho=>ho.below hb⟩
  p11:=fun h1=>by obtain ⟨p,cs,e,hp,h3,hk,ha⟩:=h.p11 h1;exact ⟨p,cs,e,hp,h3,hk.keep hb,ha⟩ }
theorem Jt {a b:Prop} {x:Bool} (h:x=false) (h':x=true):a:=by rw [h] at h';cases h'
theorem R6.s0 (h:R6 V2 f A c l out done vals X):R6 V2 f A c l out (Cu done 0 true) (Cu vals 0 f.val) X:={ h with c0:=fun _=>rfl }
theorem R6.s2 (h:R6 V2 f A c l out done vals X):R6 V2 f A c l out (Cu done 2 true) (Cu vals 2 (.slice A l.length c)) X:={ h with c2:=fun _=>rfl }
theorem R6.s4 (h:R6 V2 f A c l out done vals X):R6 V2 f A c l out (Cu done 4 true) (Cu vals 4 (.agg out.arr)) X:={ h with c4:=fun _=>rfl }
theorem R6.s1 (h:R6 V2 f A c l out done vals X):R6 V2 f A c l out (Cu done 1 true) (Cu vals 1 (.slice (some ⟨X.heap.size,0,none⟩) 0 0)) (X.alloc (.cells #[] 68)) :=
 { h.below ((Below.refl _ _).alloc Le (.cells #[] 68)) with b1:=fun _ _=>⟨_,rfl,h.bl.size,Aa rfl⟩ }
theorem R6.s5 (h:R6 V2 f A c l out done vals X):R6 V2 f A c l out (Cu done 5 true) (Cu vals 5 (.slice (some ⟨X.heap.size,0,none⟩) 1 1)) (X.alloc (.cells out.arr 68)) :=
 { h.below ((Below.refl _ _).alloc Le (.cells out.arr 68)) with b5:=fun _ _=>⟨_,rfl,Aa rfl⟩ }
theorem R6.s11 (h:R6 V2 f A c l out done vals X) (hd:done 11=false):R6 V2 f A c l out (Cu done 11 true) (Cu vals 11 (.pointer (some ⟨X.heap.size,0,none⟩))) (X.alloc (.cells #[.slice none 0 0,.slice none 0 0,.slice none 0 0] 49)) :=
 { h.below ((Below.refl _ _).alloc Le (.cells #[.slice none 0 0,.slice none 0 0,.slice none 0 0] 49)) with
  o12:=fun h1=>⟨(h.o12 h1).1,rfl⟩
  p11:=fun _=>⟨_,_,rfl,h.bl.size,rfl,Aa rfl,fun h12=>Jt (b:=True) hd (h.o12 h12).2⟩ }
theorem R6.s3 (h:R6 V2 f A c l out done vals X) (hd:done 3=false) (h1:done 1=true) {v':Value} (ho:X'.ownsRow V2.heap.size 68 19 v' l.length (Aw l)) (hb:Below V2.heap.size V2 X') (hg:∀ g,vals 1=.slice (some ⟨g,0,none⟩) 0 0->X.grownBy X' (some g)):R6 V2 f A c l out (Cu done 3 true) (Cu vals 3 v') X':=by
 obtain ⟨g,e,hgl,hgk⟩:=h.b1 h1 hd;have hgr:=hg g e;have h6:done 6=false:=Bool.eq_false_iff.2 fun h6=>Jt (b:=True) hd (h.o6 h6)
 have h7:done 7=false:=Bool.eq_false_iff.2 fun h7=>Jt (b:=True) h6 (h.o7 h7)
 exact { h with
  bl:=hb
  o6:=fun h=>Jt (b:=True) h6 h
  b1:=fun _ h=>by cases h
  b5:=fun k1 k2=>by
   obtain ⟨q,e,hk⟩:=h.b5 k1 k2;refine ⟨q,e,hk.grown hgr fun hq=>?_⟩
   injection hq with hq
   subst hq;have:=hk.symm.trans hgk;simp [Ab.arr] at this
  a3:=fun _ _=>ho
  a6:=fun k1 _=>Jt (b:=True) h6 k1
  k7:=fun k1=>Jt (b:=True) h7 k1
  p11:=fun k1=>by
   obtain ⟨p,cs,e,hp,h3,hk,ha⟩:=h.p11 k1;refine ⟨p,cs,e,hp,h3,hk.grown hgr fun hq=>?_,ha⟩
   injection hq with hq
   subst hq;have:=hk.symm.trans hgk;simp at this }
theorem R6.s6 (h:R6 V2 f A c l out done vals X) (hd:done 6=false) (h3:done 3=true) {A6:Option Addr} {c6:Nat} (ho:Ad X' A6 (Aw (l ++ [out]))) (hb:Below V2.heap.size V2 X') (hg:X.grownBy X' (vals 3).ownBlock):R6 V2 f A c l out (Cu done 6 true) (Cu vals 6 (.slice A6 (l.length+1) c6)) X':=by
 have ha3:=h.a3 h3 hd;have h7:done 7=false:=Bool.eq_false_iff.2 fun h7=>Jt (b:=True) hd (h.o7 h7)
 exact { h with
  bl:=hb
  o6:=fun _=>h3
  o7:=fun h=>Jt (b:=True) h7 h
  b1:=fun _ k=>Jt (b:=True) k h3
  b5:=fun _ k=>by cases k
  a3:=fun _ k=>by cases k
  a6:=fun _ _=>⟨A6,c6,rfl,ho⟩
  k7:=fun k1=>Jt (b:=True) h7 k1
  p11:=fun k1=>by
   obtain ⟨p,cs,e,hp,h3,hk,ha⟩:=h.p11 k1;exact ⟨p,cs,e,hp,h3,hk.grown hg (Bl ha3 hk (by decide)),ha⟩ }
theorem R6.s7 (h:R6 V2 f A c l out done vals X) (hd:done 7=false) (h6:done 6=true) (hb:Below X.heap.size X X') {A1 A2 A3:Option Addr} {n1 c1 n2 c2 n3 c3:Nat} {code:Int} (hF:FoldU f (l ++ [out]) code A1 n1 A2 n2 X'):R6 V2 f A c l out (Cu done 7 true) (Cu vals 7 (.tuple #[.agg #[.slice A1 n1 c1,.slice A2 n2 c2,.slice A3 n3 c3],.int .i64 code])) X' :=
 { h.below hb with
  o7:=fun _=>h6
  o8:=fun _=>rfl
  o9:=fun _=>rfl
  o10:=fun _=>rfl
  a6:=fun _ k=>by cases k
  k7:=fun _=>⟨_,_,_,_,_,_,_,_,_,_,rfl,hF⟩
  m8:=fun k=>Jt (b:=True) hd (h.o8 k)
  e9:=fun k=>Jt (b:=True) hd (h.o9 k)
  e10:=fun k=>Jt (b:=True) hd (h.o10 k) }
theorem R6.s8 (h:R6 V2 f A c l out done vals X) (h7:done 7=true):R6 V2 f A c l out (Cu done 8 true) (Cu vals 8 (vals 7)) X:={ h with o8:=fun _=>h7,m8:=fun _=>rfl }
theorem R6.s9 (h:R6 V2 f A c l out done vals X) (hd:done 9=false) (h8:done 8=true):R6 V2 f A c l out (Cu done 9 true) (Cu vals 9 (tupAt 0 (vals 8))) X :=
 { h with
  o9:=fun _=>h.o8 h8
  o12:=fun k=>⟨rfl,(h.o12 k).2⟩
  e9:=fun _=>by show tupAt 0 (vals 8)=tupAt 0 (vals 7);rw [h.m8 h8]
  p11:=fun k=>by
   obtain ⟨p,cs,e,hp,h3,hk,ha⟩:=h.p11 k;exact ⟨p,cs,e,hp,h3,hk,fun k=>Jt (b:=True) hd (h.o12 k).1⟩ }
theorem R6.s10 (h:R6 V2 f A c l out done vals X) (hd:done 10=false) (h8:done 8=true):R6 V2 f A c l out (Cu done 10 true) (Cu vals 10 (tupAt 1 (vals 8))) X :=
 { h with
  o10:=fun _=>h.o8 h8
  o13:=fun _=>rfl
  e10:=fun _=>by show tupAt 1 (vals 8)=tupAt 1 (vals 7);rw [h.m8 h8]
  c13:=fun k=>Jt (b:=True) hd (h.o13 k) }
theorem R6.s12 (h:R6 V2 f A c l out done vals X) (h9:done 9=true) (h11:done 11=true):∃ (p:Nat) (old cs:Array Value),vals 11=.pointer (some ⟨p,0,none⟩)/\Bk X p 49 old/\old.size=3/\cs.size=3/\(∀ u∈cs.toList,u.oneCell'=true)/\vals 9=.agg cs/\R6 V2 f A c l out (Cu done 12 true) (Cu vals 12 undef) (X.setRow p cs):=by
 have h7:=h.o9 h9;have h6:=h.o7 h7;obtain ⟨p,old,e,hp,h3,hk,_⟩:=h.p11 h11;obtain ⟨A1,n1,c1,A2,n2,c2,A3,n3,c3,code,e7,hF⟩:=h.k7 h7;have e9:=h.e9 h9;rw [e7] at e9;refine ⟨p,old,#[.slice A1 n1 c1,.slice A2 n2 c2,.slice A3 n3 c3],e,hk,h3,rfl,by simp [Value.oneCell'],e9,?_⟩
 exact { h with
  bl:=Aq h.bl hp _
  o12:=fun _=>⟨h9,h11⟩
  b1:=fun _ k=>Jt (b:=True) k (h.o6 h6)
  b5:=fun _ k=>Jt (b:=True) k h6
  a3:=fun _ k=>Jt (b:=True) k h6
  a6:=fun _ k=>Jt (b:=True) k h7
  k7:=fun _=>⟨A1,n1,c1,A2,n2,c2,A3,n3,c3,code,e7,hF.keep fun _ _ ho=>ho.off hk h3 (fun k hne=>Cy hne _) (by rw [Fi];exact Nat.le_refl _)⟩
  p11:=fun _=>⟨p,_,e,hp,rfl,Bj hk _,fun _=>e9⟩ }
theorem R6.s13 (h:R6 V2 f A c l out done vals X) (h10:done 10=true):R6 V2 f A c l out (Cu done 13 true) (Cu vals 13 (vals 10)) X:={ h with o13:=fun _=>h10,c13:=fun _=>rfl }
theorem R6.start {n:Nat} (hn:n=14):R6 V2 f A c l out (fun i=>decide (n<=i)) (fun _=>undef) { V2 with drawn:=V2.drawn+1 }:=by
 subst hn;exact ⟨(Below.refl V2.heap.size V2).drew,fun h=>by simp at h,fun h=>by simp at h,fun h=>by simp at h,fun h=>by simp at h,fun h=>by simp at h,fun h=>by simp at h,fun h=>by simp at h,fun h=>by simp at h,fun h=>by simp at h,fun h=>by simp at h,fun h=>by simp at h,fun h=>by simp at h,fun h=>by simp at h,fun h=>by simp at h,fun h=>by simp at h,fun h=>by simp at h,fun h=>by simp at h,fun h=>by simp at h,fun h=>by simp at h,fun h=>by simp at h⟩
theorem R6.fin (h:R6 V2 f A c l out (fun _=>true) vals X):∃ (p:Nat) (A1:Option Addr) (n1 c1:Nat) (A2:Option Addr) (n2 c2:Nat) (A3:Option Addr) (n3 c3:Nat) (code:Int),vals 11=.pointer (some ⟨p,0,none⟩)/\vals 13=.int .i64 code/\V2.heap.size<=p/\Below V2.heap.size V2 X/\Bk X p 49 #[.slice A1 n1 c1,.slice A2 n2 c2,.slice A3 n3 c3]/\FoldU f (l ++ [out]) code A1 n1 A2 n2 X:=by
 obtain ⟨p,cs,e,hp,h3,hk,ha⟩:=h.p11 rfl;obtain ⟨A1,n1,c1,A2,n2,c2,A3,n3,c3,code,e7,hF⟩:=h.k7 rfl;have e9:=h.e9 rfl;have e10:=h.e10 rfl;rw [e7] at e9 e10;have hcs:=(ha rfl).symm.trans e9;injection hcs with hcs
 subst hcs;exact ⟨p,A1,n1,c1,A2,n2,c2,A3,n3,c3,code,e,by rw [h.c13 rfl,e10];rfl,hp,h.bl,hk,hF⟩
end
end
section
theorem run_append_evs (base:Nat) (v:Value) (n:Nat) (xs:List Value) (w:World) (hown:w.ownsRow base 70 21 v n xs) (A:Option Addr) (c:Nat) (l:List EvD) (hrow:Ad w A (Ak l)) (hb:n+l.length<=1000) (hbase:base<=w.heap.size) :
  ∃ v' w',(Builtin.append_ #[46,46] 46 #[v,.slice A l.length c]).run Tryz.prog w=.ok v' w'/\w'.ownsRow base 70 21 v' (n+l.length) (xs ++ Ak l)/\w.grownBy w' v.ownBlock:=by
 obtain ⟨i0,hi0,hz0,hz1,hz2⟩:=info_parts info70e;have hl:(Ak l).length=l.length*21:=Ci _ 21 (fun _=>rfl) l
 cases A with
 | none =>
  have h0:l=[]:=by
   cases l with
   | nil=>rfl
   | cons y l =>
    obtain ⟨b,off,e,_⟩:=hrow (by rw [hl];simp)
    cases e
  subst h0;obtain ⟨A',c',rfl,_,_,_⟩:=Au hown;exact ⟨_,_,Ht (c':=c) Tryz.underlying46 hi0 hown,by simpa [Ak] using hown,World.grownBy_refl _ _⟩
 | some ad =>
  obtain ⟨v',w',h1,h2,h3,_⟩:=run_append_own w base 46 46 70 i0 _ 21 _ Tryz.underlying46 hi0 hz0 hz1 hz2 rfl (by decide) v n xs hown ad l.length c (Ak l) hl (fun j u hj=>by
   have h0:0<(Ak l).length:=by have:=(List.getElem?_eq_some_iff.1 hj).1;omega
   obtain ⟨b,off,e,_,hc⟩:=hrow h0;injection e with e
   subst e;rw [De];exact hc j u hj) (fun u hu=>by
   obtain ⟨y,_,hy⟩:=List.mem_flatMap.1 hu;exact Jr y u hy) (by unfold maxLen;omega) (by omega) hbase
  exact ⟨v',w',h1,h2,h3⟩
def restEv (b o k c:Nat):Option Addr:=if c=k then some ⟨b,o,none⟩ else some ⟨b,o+k*21,none⟩
theorem flat_takeN {α:Type} (f:α->List Value) (n:Nat) (hf:∀ x,(f x).length=n):∀ (L:List α) (i:Nat),(L.take i).flatMap f=(L.flatMap f).take (i*n)
 | [],i=>by simp
 | x :: L,0=>by simp
 | x :: L,i+1=>by
  rw [List.take_succ_cons,List.flatMap_cons,List.flatMap_cons,flat_takeN f n hf L i,List.take_append,hf,List.take_of_length_le (l:=f x) (by rw [hf,Nat.succ_mul];omega),show (i+1)*n - n=i*n by rw [Nat.succ_mul];omega]
theorem flat_dropN {α:Type} (f:α->List Value) (n:Nat) (hf:∀ x,(f x).length=n):∀ (L:List α) (i:Nat),(L.drop i).flatMap f=(L.flatMap f).drop (i*n)
 | [],i=>by simp
 | x :: L,0=>by simp
 | x :: L,i+1=>by
  rw [List.drop_succ_cons,List.flatMap_cons,flat_dropN f n hf L i,List.drop_append,hf,List.drop_of_length_le (l:=f x) (by rw [hf,Nat.succ_mul];omega),show (i+1)*n - n=i*n by rw [Nat.succ_mul];omega,List.nil_append]
theorem evCells_take (E:List EvD) (k:Nat):Ak (E.take k)=(Ak E).take (k*21):=by
 unfold Ak;exact flat_takeN _ 21 (fun _=>rfl) E k
theorem evCells_drop (E:List EvD) (k:Nat):Ak (E.drop k)=(Ak E).drop (k*21):=by
 unfold Ak;exact flat_dropN _ 21 (fun _=>rfl) E k
theorem row_take {w:World} {b o:Nat} {E:List EvD} (h:Ad w (some ⟨b,o,none⟩) (Ak E)) (k:Nat):Ad w (some ⟨b,o,none⟩) (Ak (E.take k)):=fun h0=>by
 rw [evCells_take] at h0 ⊢;have h1:0<(Ak E).length:=by simp at h0;omega
 obtain ⟨b',o',e,hb,hc⟩:=h h1;injection e with e
 injection e with e1 e2
 subst e1 e2;refine ⟨b,o,rfl,hb,fun j u hu=>hc j u ?_⟩
 rw [List.getElem?_take] at hu
 split at hu
 ·exact hu
 ·cases hu
theorem row_drop {w:World} {b o:Nat} {E:List EvD} (h:Ad w (some ⟨b,o,none⟩) (Ak E)) (k c:Nat) (hc:E.length<=c):Ad w (restEv b o k c) (Ak (E.drop k)):=fun h0=>by
 have hl:(Ak (E.drop k)).length=(E.drop k).length*21:=Ci EvD.cells 21 (fun _=>rfl) _
 have hk:k<E.length:=by rw [hl,List.length_drop] at h0;omega
 rw [evCells_drop];have h1:0<(Ak E).length:=by rw [show (Ak E).length=E.length*21 from Ci EvD.cells 21 (fun _=>rfl) _];omega
 obtain ⟨b',o',e,hb,hc'⟩:=h h1;injection e with e
 injection e with e1 e2
 subst e1 e2;refine ⟨b,o+k*21,by unfold restEv;rw [if_neg (by omega)],hb,fun j u hu=>?_⟩
 rw [List.getElem?_drop] at hu;have:=hc' _ u hu
 rwa [<- Nat.add_assoc] at this
structure R10 (V:World) (pr ps k b o:Nat) (E:List EvD) (c:Nat) (done:Nat->Bool) (vals:Nat->Value) (X:World):Prop where
 o11:done 11=true->done 5=true
 o13:done 13=true->∀ i,i<13->done i=true
 c1:done 1=true->vals 1=.pointer (some ⟨pr,1,none⟩)
 c2:done 2=true->vals 2=.slice (some ⟨b,o,none⟩) E.length c
 c3:done 3=true->vals 3=.int .i64 k
 c4:done 4=true->vals 4=.slice (some ⟨b,o,none⟩) (E.take k).length c
 c6:done 6=true->vals 6=.pointer (some ⟨pr,1,none⟩)
 c7:done 7=true->vals 7=.slice (some ⟨b,o,none⟩) E.length c
 c8:done 8=true->vals 8=.int .i64 k
 c9:done 9=true->vals 9=.int .i64 (k+1)
 c10:done 10=true->vals 10=.slice (restEv b o (k+1) c) (E.drop (k+1)).length (c - (k+1))
 c12:done 12=true->vals 12=.pointer (some ⟨ps,1,none⟩)
 bl:done 13=false->Below V.heap.size V X
 b0:done 0=true->done 5=false->X.ownsRow V.heap.size 70 21 (vals 0) 0 []
 a5:done 5=true->done 11=false->X.ownsRow V.heap.size 70 21 (vals 5) (E.take k).length (Ak (E.take k))
 a11:done 11=true->done 13=false->X.ownsRow V.heap.size 70 21 (vals 11) ((E.take k).length+(E.drop (k+1)).length) (Ak (E.take k) ++ Ak (E.drop (k+1)))
 f13:done 13=true->∃ Y v,Below V.heap.size V Y/\Y.ownsRow V.heap.size 70 21 v ((E.take k).length+(E.drop (k+1)).length) (Ak (E.take k) ++ Ak (E.drop (k+1)))/\X=Y.setCell ⟨ps,1,none⟩ v
section
variable {V:World} {pr ps k b o:Nat} {E:List EvD} {c:Nat} {done:Nat->Bool} {vals:Nat->Value} {X X':World}
theorem R10.nd {i:Nat} (h:R10 V pr ps k b o E c done vals X) (hd:done i=false) (hi:i<13):done 13=false :=
 Bool.eq_false_iff.2 fun h13=>Jt (b:=True) hd (h.o13 h13 i hi)
theorem R10.all {i:Nat} (h:R10 V pr ps k b o E c done vals X) (hd:done i=false) (hi:i<13):Cu done i true 13=true->∀ j,j<13->Cu done i true j=true:=fun k=>by
 rw [updS_ne done true (by omega)] at k
 exact Jt (b:=True) (h.nd hd hi) k
theorem R10.s1 (h:R10 V pr ps k b o E c done vals X) (hd:done 1=false):R10 V pr ps k b o E c (Cu done 1 true) (Cu vals 1 (.pointer (some ⟨pr,1,none⟩))) X:={ h with o13:=h.all hd (by decide),c1:=fun _=>rfl }
theorem R10.s2 (h:R10 V pr ps k b o E c done vals X) (hd:done 2=false):R10 V pr ps k b o E c (Cu done 2 true) (Cu vals 2 (.slice (some ⟨b,o,none⟩) E.length c)) X:={ h with o13:=h.all hd (by decide),c2:=fun _=>rfl }
theorem R10.s3 (h:R10 V pr ps k b o E c done vals X) (hd:done 3=false):R10 V pr ps k b o E c (Cu done 3 true) (Cu vals 3 (.int .i64 k)) X:={ h with o13:=h.all hd (by decide),c3:=fun _=>rfl }
theorem R10.s4 (h:R10 V pr ps k b o E c done vals X) (hd:done 4=false):R10 V pr ps k b o E c (Cu done 4 true) (Cu vals 4 (.slice (some ⟨b,o,none⟩) (E.take k).length c)) X:={ h with o13:=h.all hd (by decide),c4:=fun _=>rfl }
theorem R10.s6 (h:R10 V pr ps k b o E c done vals X) (hd:done 6=false):R10 V pr ps k b o E c (Cu done 6 true) (Cu vals 6 (.pointer (some ⟨pr,1,none⟩))) X:={ h with o13:=h.all hd (by decide),c6:=fun _=>rfl }
theorem R10.s7 (h:R10 V pr ps k b o E c done vals X) (hd:done 7=false):R10 V pr ps k b o E c (Cu done 7 true) (Cu vals 7 (.slice (some ⟨b,o,none⟩) E.length c)) X:={ h with o13:=h.all hd (by decide),c7:=fun _=>rfl }
theorem R10.s8 (h:R10 V pr ps k b o E c done vals X) (hd:done 8=false):R10 V pr ps k b o E c (Cu done 8 true) (Cu vals 8 (.int .i64 k)) X:={ h with o13:=h.all hd (by decide),c8:=fun _=>rfl }
theorem R10.s9 (h:R10 V pr ps k b o E c done vals X) (hd:done 9=false):R10 V pr ps k b o E c (Cu done 9 true) (Cu vals 9 (.int .i64 (k+1))) X:={ h with o13:=h.all hd (by decide),c9:=fun _=>rfl }
theorem R10.s10 (h:R10 V pr ps k b o E c done vals X) (hd:done 10=false):R10 V pr ps k b o E c (Cu done 10 true) (Cu vals 10 (.slice (restEv b o (k+1) c) (E.drop (k+1)).length (c - (k+1)))) X:={ h with o13:=h.all hd (by decide),c10:=fun _=>rfl }
theorem R10.s12 (h:R10 V pr ps k b o E c done vals X) (hd:done 12=false):R10 V pr ps k b o E c (Cu done 12 true) (Cu vals 12 (.pointer (some ⟨ps,1,none⟩))) X:={ h with o13:=h.all hd (by decide),c12:=fun _=>rfl }
theorem R10.s0 (h:R10 V pr ps k b o E c done vals X) (hd:done 0=false):R10 V pr ps k b o E c (Cu done 0 true) (Cu vals 0 (.slice (some ⟨X.heap.size,0,none⟩) 0 0)) (X.alloc (.cells #[] 70)) :=
 have hb:Below X.heap.size X (X.alloc (.cells #[] 70)):=Ba;have h13:=h.nd hd (by decide)
 { h with
  o13:=h.all hd (by decide)
  bl:=fun _=>Fp (h.bl h13) hb
  b0:=fun _ _=>⟨by simp,.inr ⟨X.heap.size,0,#[],rfl,(h.bl h13).size,Aa rfl,Nat.le_refl _,Nat.zero_le _,rfl,rfl⟩⟩
  a5:=fun h1 h2=>Ca (h.a5 h1 h2) hb
  a11:=fun h1 h2=>Ca (h.a11 h1 h2) hb
  f13:=fun k=>Jt (b:=True) h13 k }
theorem R10.s5 (h:R10 V pr ps k b o E c done vals X) (hd:done 5=false) (h0:done 0=true) {v':Value} (ho:X'.ownsRow V.heap.size 70 21 v' (E.take k).length (Ak (E.take k))) (hg:X.grownBy X' (vals 0).ownBlock):R10 V pr ps k b o E c (Cu done 5 true) (Cu vals 5 v') X' :=
 have h13:=h.nd hd (by decide)
 have h11:done 11=false:=Bool.eq_false_iff.2 fun h11=>Jt (b:=True) hd (h.o11 h11)
 { h with
  o11:=fun _=>rfl
  o13:=h.all hd (by decide)
  bl:=fun _=>(h.bl h13).grown hg (h.bl h13).size (fun j hj=>((h.b0 h0 hd).lt j hj).1)
  b0:=fun _ k=>by cases k
  a5:=fun _ _=>ho
  a11:=fun k _=>Jt (b:=True) h11 k
  f13:=fun k=>Jt (b:=True) h13 k }
theorem R10.s11 (h:R10 V pr ps k b o E c done vals X) (hd:done 11=false) (h5:done 5=true) {v':Value} (ho:X'.ownsRow V.heap.size 70 21 v' ((E.take k).length+(E.drop (k+1)).length) (Ak (E.take k) ++ Ak (E.drop (k+1)))) (hg:X.grownBy X' (vals 5).ownBlock):R10 V pr ps k b o E c (Cu done 11 true) (Cu vals 11 v') X' :=
 have h13:=h.nd hd (by decide)
 { h with
  o11:=fun _=>h5
  o13:=h.all hd (by decide)
  bl:=fun _=>(h.bl h13).grown hg (h.bl h13).size (fun j hj=>((h.a5 h5 hd).lt j hj).1)
  b0:=fun _ k=>Jt (b:=True) k h5
  a5:=fun _ k=>by cases k
  a11:=fun _ _=>ho
  f13:=fun k=>Jt (b:=True) h13 k }
theorem R10.s13 (h:R10 V pr ps k b o E c done vals X) (hd:done 13=false) (hw:∀ i,i<13->done i=true):R10 V pr ps k b o E c (Cu done 13 true) (Cu vals 13 undef) (X.setCell ⟨ps,1,none⟩ (vals 11)) :=
 { h with
  o13:=fun _ i hi=>by rw [updS_ne done true (by omega)];exact hw i hi
  bl:=fun k=>by cases k
  b0:=fun _ k=>Jt (b:=True) k (hw 5 (by decide))
  a5:=fun _ k=>Jt (b:=True) k (hw 11 (by decide))
  a11:=fun _ k=>by cases k
  f13:=fun _=>⟨X,vals 11,h.bl hd,h.a11 (hw 11 (by decide)) hd,rfl⟩ }
theorem R10.start {n:Nat} (hn:n=14):R10 V pr ps k b o E c (fun i=>decide (n<=i)) (fun _=>undef) { V with drawn:=V.drawn+1 }:=by
 subst hn;exact ⟨fun h=>by simp at h,fun h=>by simp at h,fun h=>by simp at h,fun h=>by simp at h,fun h=>by simp at h,fun h=>by simp at h,fun h=>by simp at h,fun h=>by simp at h,fun h=>by simp at h,fun h=>by simp at h,fun h=>by simp at h,fun h=>by simp at h,fun _=>(Below.refl V.heap.size V).drew,fun h=>by simp at h,fun h=>by simp at h,fun h=>by simp at h,fun h=>by simp at h⟩
theorem R10.fin (h:R10 V pr ps k b o E c (fun _=>true) vals X) (hk:k<E.length):∃ (Y:World) (A9:Option Addr) (c9:Nat),Below V.heap.size V Y/\Y.ownsRow V.heap.size 70 21 (.slice A9 (E.eraseIdx k).length c9) (E.eraseIdx k).length (Ak (E.eraseIdx k))/\X=Y.setCell ⟨ps,1,none⟩ (.slice A9 (E.eraseIdx k).length c9):=by
 obtain ⟨Y,v,hb,ho,e⟩:=h.f13 rfl;have e1:Ak (E.take k) ++ Ak (E.drop (k+1))=Ak (E.eraseIdx k):=by
  rw [List.eraseIdx_eq_take_drop_succ];unfold Ak;rw [List.flatMap_append]
 have e2:(E.take k).length+(E.drop (k+1)).length=(E.eraseIdx k).length:=by
  rw [List.eraseIdx_eq_take_drop_succ,List.length_append]
 rw [e1,e2] at ho;obtain ⟨A9,c9,rfl,_⟩:=Au ho;exact ⟨Y,A9,c9,hb,ho,e⟩
end
theorem run_slice_hi {X:World} {b o n c k:Nat} (hk:k<=c):(Instr.sliceAt 46 (.slice (some ⟨b,o,none⟩) n c) none (some (.int .i64 k)) none).run Tryz.prog X=.ok (.slice (some ⟨b,o,none⟩) k c) X:=by
 obtain ⟨i0,hi0,hz0,hz1,hz2⟩:=info_parts info70e;have h1:¬ c<k:=by omega
 simp [Instr.sliceAt,Instr.slice,Instr.sliceBounds,Instr.sliceBound,Sem.run_bind,run_underlying Tryz.underlying46,go_sem,h1,sizeOf,typeInfo,hi0,hz1]
theorem run_slice_lo {X:World} {b o n c k:Nat} (hk:k<=n):(Instr.sliceAt 46 (.slice (some ⟨b,o,none⟩) n c) (some (.int .i64 k)) none none).run Tryz.prog X=.ok (.slice (restEv b o k c) (n - k) (c - k)) X:=by
 obtain ⟨i0,hi0,hz0,hz1,hz2⟩:=info_parts info70e;have h1:¬ n<k:=by omega
 simp [Instr.sliceAt,Instr.slice,Instr.sliceBounds,Instr.sliceBound,Sem.run_bind,run_underlying Tryz.underlying46,go_sem,h1,sizeOf,typeInfo,hi0,hz1,restEv]
end
section
theorem evs_at {w:World} {A:Option Addr} {E:List EvD} (h:Gg w A E) (h0:0<E.length):∃ b o,A=some ⟨b,o,none⟩/\b<w.heap.size/\∀ k (hk:k<E.length) j u,(E[k]).cells[j]?=some u->w.cell? ⟨b,o+k*21+j,none⟩=some u:=by
 have hl:(Ak E).length=E.length*21:=Ci EvD.cells 21 (fun _=>rfl) E
 obtain ⟨b,o,hA,hb,hc⟩:=h.row (by rw [hl];omega)
 refine ⟨b,o,hA,hb,fun k hk j u hu=>?_⟩
 have hj:j<21:=by have:=(List.getElem?_eq_some_iff.1 hu).1;simpa [EvD.cells_len] using this
 rw [Nat.add_assoc];refine hc _ u ?_;unfold Ak;rw [Cw EvD.cells 21 (fun _=>rfl) (by decide) E k j hk hj]
 exact hu
theorem note_ones (n:Ab):∀ u∈n.arr.toList,u.oneCell'=true:=fun u hu=>by
 simp [Ab.arr] at hu;rcases hu with rfl | rfl | rfl | rfl | rfl | rfl | rfl | rfl | rfl | rfl | rfl | rfl | rfl | rfl | rfl | rfl | rfl | rfl | rfl<;>rfl
theorem run_append_notes (base:Nat) (v:Value) (n:Nat) (xs:List Value) (w:World) (hown:w.ownsRow base 68 19 v n xs) (A:Option Addr) (c:Nat) (l:List Ab) (hrow:Ad w A (Aw l)) (hb:n+l.length<=1000) (hbase:base<=w.heap.size) :
  ∃ v' w',(Builtin.append_ #[42,42] 42 #[v,.slice A l.length c]).run Tryz.prog w=.ok v' w'/\w'.ownsRow base 68 19 v' (n+l.length) (xs ++ Aw l)/\w.grownBy w' v.ownBlock:=by
 obtain ⟨i0,hi0,hz0,hz1,hz2⟩:=info_parts info68n;have hl:(Aw l).length=l.length*19:=Ci _ 19 (fun _=>rfl) l
 cases A with
 | none =>
  have h0:l=[]:=by
   cases l with
   | nil=>rfl
   | cons y l =>
    obtain ⟨b,off,e,_⟩:=hrow (by rw [hl];simp)
    cases e
  subst h0;obtain ⟨A',c',rfl,_,_,_⟩:=Au hown;exact ⟨_,_,Ht (c':=c) Tryz.underlying42 hi0 hown,by simpa [Aw] using hown,World.grownBy_refl _ _⟩
 | some ad =>
  obtain ⟨v',w',h1,h2,h3,_⟩:=run_append_own w base 42 42 68 i0 _ 19 _ Tryz.underlying42 hi0 hz0 hz1 hz2 rfl (by decide) v n xs hown ad l.length c (Aw l) hl (fun j u hj=>by
   have h0:0<(Aw l).length:=by have:=(List.getElem?_eq_some_iff.1 hj).1;omega
   obtain ⟨b,off,e,_,hc⟩:=hrow h0;injection e with e
   subst e;rw [De];exact hc j u hj) (fun u hu=>by
   obtain ⟨y,_,hy⟩:=List.mem_flatMap.1 hu;exact note_ones y u hy) (by unfold maxLen;omega) (by omega) hbase
  exact ⟨v',w',h1,h2,h3⟩
theorem run_copy_notes {V X:World} (hX:Below V.heap.size V X) {g:Nat} (hg:V.heap.size<=g) (hgb:Bk X g 68 #[]) (A:Option Addr) (c:Nat) (l:List Ab) (hrow:Ad V A (Aw l)) (hb:l.length<=900) :
  ∃ v' w',(Builtin.append_ #[42,42] 42 #[.slice (some ⟨g,0,none⟩) 0 0,.slice A l.length c]).run Tryz.prog X=.ok v' w'/\w'.ownsRow V.heap.size 68 19 v' l.length (Aw l)/\Below V.heap.size V w'/\X.grownBy w' (some g):=by
 have ho:X.ownsRow V.heap.size 68 19 (.slice (some ⟨g,0,none⟩) 0 0) 0 []:=⟨by simp,.inr ⟨g,0,#[],rfl,hg,hgb,Nat.le_refl _,Nat.zero_le _,rfl,rfl⟩⟩
 obtain ⟨v',w',h1,h2,h3⟩:=run_append_notes V.heap.size _ 0 [] X ho A c l (hrow.below hX) (by omega) hX.size
 exact ⟨v',w',h1,by simpa using h2,hX.grown h3 hX.size (fun k hk=>(ho.lt k hk).1),h3⟩
def outN (a c:Int):Ab:=⟨8,400,1099511627776,0,6,0,0,0,0,0,0,0,0,0,0,[],none,0,a,c,0⟩
theorem builds_at68 (ps:Array (Nat×Value)):Instr.build 68 ps=buildS 68 ps:=rfl
theorem build68_out (a c:Int) (W:World):buildSN 68 #[(0,.int .i64 8),(1,.int .i64 400),(2,.int .i64 1099511627776),(3,.int .i64 0),(4,.int .i64 6),(14,.agg #[.int .i64 a,.int .i64 c])] W=.ok (.agg (outN a c).arr) W:=by unfold buildSN;kernel_rfl
theorem alloc_setRow (W:World) (old cs:Array Value) (t:TypeId):(W.alloc (.cells old t)).setRow W.heap.size cs=W.alloc (.cells cs t):=by
 unfold World.setRow World.alloc;simp only
 congr 1
 refine Array.ext (by simp) fun i h1 h2=>?_
 rw [Array.getElem_modify]
 by_cases hi:W.heap.size=i
 ·subst hi;simp
 ·have:i<W.heap.size:=by simp at h1;omega
  simp [hi,this,Array.getElem_push]
theorem store68_out (n:Ab) (W:World):storeN 68 (.pointer (some ⟨W.heap.size,0,none⟩)) (.agg n.arr) (W.alloc (.cells z68 68))=.ok () (W.alloc (.cells n.arr 68)):=by
 have h:=Be (ty:=68) (cs:=n.arr) (Aa (w:=W) (t:=68) (cs:=z68) rfl) (by kernel_rfl) rfl (by simp [Ab.arr,Value.oneCell'])
 rw [h,alloc_setRow]
theorem Ge {t m:Nat} (e:m=173) (h:t<173:=by decide):t<m:=by omega
theorem build42_0 (W:World):(Instr.buildSlice 42 0 #[]).run Tryz.prog W=.ok (.slice (some ⟨W.heap.size,0,none⟩) 0 0) (W.alloc (.cells #[] 68)):=by kernel_rfl
theorem build46_0 (W:World):(Instr.buildSlice 46 0 #[]).run Tryz.prog W=.ok (.slice (some ⟨W.heap.size,0,none⟩) 0 0) (W.alloc (.cells #[] 70)):=by kernel_rfl
theorem alloc49_0 (W:World):(Instr.alloc 49 true (.tuple #[])).run Tryz.prog W=.ok (.pointer (some ⟨W.heap.size,0,none⟩)) (W.alloc (.cells #[.slice none 0 0,.slice none 0 0,.slice none 0 0] 49)):=by kernel_rfl
theorem fieldAt49 (p:Nat) (W:World):(Instr.fieldAt 49 (.pointer (some ⟨p,0,none⟩)) 1).run Tryz.prog W=.ok (.pointer (some ⟨p,1,none⟩)) W:=by kernel_rfl
theorem load46_cell {W:World} {p:Nat} {a:Option Addr} {n c:Nat} (h:W.cell? ⟨p,1,none⟩=some (.slice a n c)):(Instr.loadAt 46 (.pointer (some ⟨p,1,none⟩))).run Tryz.prog W=.ok (.slice a n c) W:=by
 simp [go_sem,Tryz.underlying46,h]
theorem store46_cell {W:World} {p t:Nat} {cs:Array Value} {a:Option Addr} {n c:Nat} (h:Bk W p t cs) (h1:1<cs.size):(Instr.storeAt 46 (.pointer (some ⟨p,1,none⟩)) (.slice a n c)).run Tryz.prog W=.ok () (W.setCell ⟨p,1,none⟩ (.slice a n c)):=by
 have hc:=h.cell 1;rw [Array.getElem?_eq_getElem h1] at hc;have hf:=h.fz 1;simp [go_sem,Tryz.underlying46,hc,hf]
theorem add_one_run (k:Nat) (hk:k<=1000) (x y:Operand) (W:World):(do eqGuard .add 3 x y (.int .i64 k) (.int .i64 1);binOp .add 3 (.int .i64 k) (.int .i64 1):Sem Value).run Tryz.prog W=.ok (.int .i64 (k+1)) W:=by
 have hw:IntKind.i64.wrap ((k:Int)+1)=k+1:=by rw [IntKind.wrap_i64];omega
 simp [eqGuard,go_sem,Tryz.underlying3,hw]
theorem enter9 (args:Array Value) (W:World):(callFunc 9 args).run Tryz.prog W=.ok (.enter 9 args) W:=callF_enter Tryz.func9 (by kernel_rfl) rfl args W
theorem extract_tup (xs:Array Value) (i:Nat) (hi:i<xs.size) (W:World):(Instr.extract (.tuple xs) i).run Tryz.prog W=.ok (tupAt i (.tuple xs)) W:=by
 unfold Instr.extract tupAt;simp [hi]
end
end Go.Proofs.YteihcodicfoiaaaGreat
