/-
  What is proved: the contract of graphOf.
-/
import Derived.Test.YteihcodicfoiaaaGreatWrIMf
import Derived.Test.YteihcodicfoiaaaGreat42Mf
import Derived.Test.YteihcodicfoiaaaGreat25Mf
import Derived.BigQuiet
import Derived.Deep.RegionLawGrows
import Derived.Deep.RegionLaw
import Derived.Deep.DeepCutAuto
namespace Go.Proofs.YteihcodicfoiaaaGreat
set_option maxRecDepth 100000
set_option maxHeartbeats 8000000
open Go Go.RowKit
attribute [local go_sem] makeMap_run
theorem info141:(Tryz.prog.info? 141).map (fun i=>(i.zero,i.size,i.bytes))=some (some (.agg #[.int .i64 0,.int .i64 0]),2,16):=by kernel_rfl
structure GrAt (w:World) (g:Nat) (N:List (Int×Int)) (L:List Ao):Prop where
 ex:∃ (gm:Nat) (A B:Option Addr) (a b:Nat),Bk w g 326 #[.slice A L.length a,.map (some gm),.slice B N.length b]/\Bv w gm (ixF N)/\Ad w A (Cz L)
theorem GrAt.below {w w':World} {g:Nat} {N:List (Int×Int)} {L:List Ao} (h:GrAt w g N L) (hb:Below w.heap.size w w'):GrAt w' g N L:=by
 obtain ⟨gm,A,B,a,b,h1,h2,h3⟩:=h.ex;exact ⟨gm,A,B,a,b,h1.keep hb,h2.below hb,h3.below hb⟩
structure GrI (w:World) (g gm B0:Nat) (A:Option Addr) (a:Nat) (L:List Ao) (M N:List (Int×Int)) (B:Option Addr) (b:Nat) (V:World):Prop where
 bl:Below w.heap.size w V
 lt:w.heap.size<=gm/\gm<g/\g<B0/\B0<=V.heap.size
 bk:Bk V g 326 #[.slice A L.length a,.map (some gm),.slice B N.length b]
 mp:Bv V gm (ixF M)
 rw:Ad V A (Cz L)
 rA:0<L.length->∀ x,A=some x->x.block<gm
 ow:V.ownsRow B0 141 2 (.slice B N.length b) N.length (Am N)
 nd:N.Nodup
section
variable {w:World} {g gm B0:Nat} {A:Option Addr} {a:Nat} {L:List Ao} {M N:List (Int×Int)} {B:Option Addr} {b:Nat} {V V':World}
theorem GrI.below (h:GrI w g gm B0 A a L M N B b V) (hb:Below V.heap.size V V'):GrI w g gm B0 A a L M N B b V' :=
 ⟨h.bl.trans (hb.mono h.bl.size),⟨h.lt.1,h.lt.2.1,h.lt.2.2.1,Nat.le_trans h.lt.2.2.2 hb.size⟩,h.bk.keep hb,h.mp.below hb,h.rw.below hb,h.rA,Ca h.ow hb,h.nd⟩
theorem bnd_pos {L:List Ao} (h:0<(Cz L).length):0<L.length:=by rw [bndCells_len] at h;omega
theorem GrI.put (h:GrI w g gm B0 A a L N N B b V) {p:Int×Int} (hm:Bv V' gm (ixF (N ++ [p]))) (far:∀ k,k≠gm->V'.heap[k]?=V.heap[k]?) (sz:V'.heap.size=V.heap.size) (os:V'.os=V.os) (tp:V'.tape=V.tape) (ou:V'.output=V.output) :
  GrI w g gm B0 A a L (N ++ [p]) N B b V':=by
 have hl:=h.lt;refine ⟨⟨os.trans h.bl.os,tp.trans h.bl.tape,ou.trans h.bl.output,by rw [sz];exact h.bl.size,fun k hk=>(far k (by omega)).trans (h.bl.block k hk)⟩,⟨hl.1,hl.2.1,hl.2.2.1,by rw [sz];exact hl.2.2.2⟩,(far g (by omega)).trans h.bk,hm,fun h0=>?_,h.rA,?_,h.nd⟩
 ·exact (h.rw.of_heap (fun x hx=>far _ (by have:=h.rA (bnd_pos h0) x hx;omega)) (by omega)) h0
 ·refine Bt h.ow (row:=some gm) ⟨os,tp,ou,by omega,fun k _ hk=>far k (fun e=>hk (by rw [e]))⟩ fun k hk e=>?_
  injection e with e
  have:=(h.ow.lt k hk).1;omega
theorem GrI.push (h:GrI w g gm B0 A a L M N B b V) {p:Int×Int} {B':Option Addr} {b':Nat} (hown:V'.ownsRow B0 141 2 (.slice B' (N.length+1) b') (N.length+1) (Am N ++ [.int .i64 p.1,.int .i64 p.2])) (hg:V.grownBy V' (Value.slice B N.length b).ownBlock) (hp:p ∉ N) :
  GrI w g gm B0 A a L M (N ++ [p]) B' b' (V'.setCell ⟨g,2,none⟩ (.slice B' (N.length+1) b')):=by
 have hl:=h.lt;have e1:(N ++ [p]).length=N.length+1:=by simp
 have hk:∀ k,k<B0->k≠g->(V'.setCell ⟨g,2,none⟩ (.slice B' (N.length+1) b')).heap[k]?=V.heap[k]?:=fun k hk hkg =>
  (Below.heap_setCell V' ⟨g,2,none⟩ _ k hkg).trans (hg.block k (by omega) fun e=>by have:=(h.ow.lt k e.symm).1;omega)
 have hbV:Bk V' g 326 #[.slice A L.length a,.map (some gm),.slice B N.length b]:=(hg.block g h.bk.lt (Bl h.ow h.bk (by decide))).trans h.bk
 refine ⟨(h.bl.grown hg h.bl.size (fun r e=>by have:=(h.ow.lt r e).1;omega)).setCell (p:=⟨g,2,none⟩) (by show w.heap.size<=g;omega) _,⟨hl.1,hl.2.1,hl.2.2.1,Nat.le_trans hl.2.2.2 (by simpa using hg.size)⟩,?_,h.mp.of_eq (hk gm (by omega) (by omega)),fun h0=>?_,h.rA,?_,?_⟩
 ·rw [e1];exact hbV.put 2 (.slice B' (N.length+1) b')
 ·exact (h.rw.of_heap (fun x hx=>hk _ (by have:=h.rA (bnd_pos h0) x hx;omega) (by have:=h.rA (bnd_pos h0) x hx;omega)) (by simpa using hg.size)) h0
 ·rw [e1,show Am (N ++ [p])=Am N ++ [.int .i64 p.1,.int .i64 p.2] by simp [Am]]
  refine own_far hown (fun e=>?_) _
  have:=(hown.lt g e).1;omega
 ·rw [List.nodup_append];refine ⟨h.nd,by simp,fun x hx y hy=>?_⟩
  rw [List.mem_singleton.1 hy];rintro rfl;exact hp hx
end
theorem row7 {w:World} {A:Option Addr} {l:List Ao} (h:Ad w A (Cz l)) (h0:0<l.length) :
  ∃ b off,A=some ⟨b,off,none⟩/\b<w.heap.size/\∀ k (hk:k<l.length),∀ j u,(Ao.cells l[k])[j]?=some u->w.cell? ⟨b,off+k*7+j,none⟩=some u:=by
 have hl:=bndCells_len l;obtain ⟨b,off,h1,h2,h3⟩:=h.some_ (by omega)
 refine ⟨b,off,h1,h2,fun k hk j u hu=>?_⟩
 have hj:j<7:=(List.getElem?_eq_some_iff.1 hu).1;have:=Cw Ao.cells 7 (fun _=>rfl) (by decide) l k j hk hj
 have:=h3 (k*7+j) u (this.trans hu)
 rwa [<- Nat.add_assoc] at this
theorem foldl_take {L:List Ao} {k:Nat} (hk:k<L.length):(L.take (k+1)).foldl addB []=addB ((L.take k).foldl addB []) L[k]:=by
 rw [List.take_add_one,List.getElem?_eq_getElem hk,List.foldl_append];rfl
structure GrJ (w:World) (g gm B0:Nat) (A:Option Addr) (a:Nat) (L:List Ao) (N0:List (Int×Int)) (k:Nat) (p0 p1:Int×Int) (qs j:Nat) (V:World):Prop where
 ex:∃ (B:Option Addr) (b:Nat),GrI w g gm B0 A a L (([p0,p1].take j).foldl addN N0) (([p0,p1].take j).foldl addN N0) B b V/\(j=0->(Value.slice B (([p0,p1].take j).foldl addN N0).length b).ownBlock≠some qs)
 sl:j<2->Bk V qs 141 #[.int .i64 p0.1,.int .i64 p0.2,.int .i64 p1.1,.int .i64 p1.2]
 ln:(([p0,p1].take j).foldl addN N0).length<=2*k+j
 le:B0<=qs
def GraphP (D:Ap) (wd:List Int) (w:World) (e:Ending) (V:World):Prop :=
 Below w.heap.size w V/\∃ g,e=.returned (.pointer (some ⟨g,0,none⟩))/\GrAt V g (An (Ae D wd)) (Ae D wd)
theorem graph_any (D:Ap) (hD:D.Ok) (wd:List Int) (hwl:wd.length=D.hp.length) (hwr:∀ i,0<=wd.getD i 0/\wd.getD i 0<=255) (A:Option Addr) (cA:Nat) (w:World) (hAt:D.At w) (hA:Ad w A (Ac wd)) :
  Calls Tryz.prog 145 #[.agg D.arr,.slice A wd.length cA] w (GraphP D wd w):=by
 obtain ⟨W,hW⟩:∃ W,w.alloc (.cells D.arr 55)=W:=⟨_,rfl⟩;have hbW:Below w.heap.size w W:=by rw [<- hW];exact Ba
 have X:Bk W w.heap.size 55 D.arr:=by rw [<- hW];exact Aa rfl
 have HBA:=Hd (show Calls Tryz.prog 191 #[.agg #[.slice D.A1 D.st.length D.c1,.slice D.A2 D.hp.length D.c2,.slice D.A3 D.S.length D.c3,.slice D.A4 D.R.length D.c4],.slice A wd.length cA] W _ from bounds_any D A wd.length cA W)
 have HCO:=Hd (fun (X:World) (q1 q2:Nat) (h:Below W.heap.size W X) (h1:Bk X q1 55 D.arr) (h2:Bk X q2 22 #[.slice A wd.length cA])=>collect_any q1 q2 D hD wd hwl hwr A cA X ((hAt.below hbW).below h) ((hA.below hbW).below h) h1 h2)
 have hlen:=bounds_len hD wd;have HNL:=Hd (nm_len hD wd).2;unfold An at HNL;generalize hL:Ae D wd=L at *;have x0:=X.cell 0;have x1:=X.cell 1;have x2:=X.cell 2;have x3:=X.cell 3;simp [Ap.arr] at x0 x1 x2 x3;have HW:=Hd hW;have HBW:=Hd hbW;have HLL:=Hd hL;clear hW hbW X hAt hA hD hwl hwr hL;unfold Ap.arr at *;go_enter Tryz.func145,Tryz.ntmps145;go_upto_region 1 with fail
 rw [HW.out];clear HW;go_upto_region 2 with (first | (go_at_call 191;refine HBA.out.mono ?_;rintro e w1 ⟨rfl,k1,k2,hb1⟩;have H1:=Hd (Ai k1 (Ai k2 hb1));clear k1 k2 hb1) | (go_at_call 190;refine (HCO.out _ _ _ H1.out.2.2 H1.out.1 H1.out.2.1).mono ?_;rintro e w2 ⟨hb2,A2,c2,rfl,hr2⟩;have H2:=Hd (Ai hb2 hr2);clear hb2 hr2))
 obtain ⟨V0,hV0⟩:∃ V,(w2.alloc (.map #[] 0)).alloc (.cells #[.slice A2 L.length c2,.map (some w2.heap.size),.slice none 0 0] 326)=V:=⟨_,rfl⟩;have hbV:Below w2.heap.size w2 V0:=by rw [<- hV0];exact Ba.alloc (by simp) _
 have K0:Bk V0 (w2.heap.size+1) 326 #[.slice A2 L.length c2,.map (some w2.heap.size),.slice none 0 0]:=by rw [<- hV0];exact Aa (by simp)
 have M0:Bv V0 w2.heap.size []:=by rw [<- hV0];exact (Bv.nil w2).alloc _
 have hs0:V0.heap.size=w2.heap.size+2:=by rw [<- hV0];simp
 have hbw2:=HBW.out.trans ((H1.out.2.2.trans (H2.out.1.mono H1.out.2.2.size)).mono HBW.out.size);have hA2:0<L.length->∀ x,A2=some x->x.block<w2.heap.size:=fun h0 x hx=>by
  obtain ⟨b',o',e',h',_⟩:=H2.out.2 (by rw [bndCells_len];omega)
  rw [hx] at e';injection e' with e'
  subst e';exact h'
 have HI0:Hid (GrI w (w2.heap.size+1) w2.heap.size (w2.heap.size+2) A2 c2 L ((L.take 0).foldl addB []) ((L.take 0).foldl addB []) none 0 V0):=Hd ⟨hbw2.trans (hbV.mono hbw2.size),⟨hbw2.size,by omega,by omega,by omega⟩,K0,M0,H2.out.2.below hbV,hA2,World.ownsRow_nil _ _ _ _,List.nodup_nil⟩
 rw [hV0];have k0:=K0.cell 0;simp at k0;clear hV0 hbV K0 M0 hs0 hbw2 hA2 H1 H2 HBW HBA HCO x0 x1 x2 x3;generalize w2.heap.size=gm at *;go_upto_region 3 with fail
 clear k0;go_loopw [24] (fun v wr=>∃ k:Nat,k<=L.length/\v=.int .i64 k/\∃ (B:Option Addr) (b:Nat),Hid (GrI w (gm+1) gm (gm+2) A2 c2 L ((L.take k).foldl addB []) ((L.take k).foldl addB []) B b wr)) (fun v _=>L.length - (intOf v).toNat)
 case atStart=>exact ⟨0,Nat.zero_le _,rfl,none,0,HI0⟩
 case round =>
  clear HI0;obtain ⟨k,hk,rfl,B,b,HI⟩:=hrel
  by_cases hlt:k<L.length
  ·have hkI:(k:Int)<L.length:=by omega
   have HX:=Hd (foldl_take hlt);obtain ⟨b6,o6,hA6,hb6,hc6⟩:=row7 HI.out.rw (by omega)
   have d0:=hc6 k hlt 0 _ rfl;have d1:=hc6 k hlt 1 _ rfl;have d2:=hc6 k hlt 2 _ rfl;have d3:=hc6 k hlt 3 _ rfl;have d4:=hc6 k hlt 4 _ rfl;have d5:=hc6 k hlt 5 _ rfl;have d6:=hc6 k hlt 6 _ rfl;have hnl:=names_len (L.take k) [];rw [List.length_take] at hnl;rw [hA6] at HI ⊢;clear hA6 hc6;generalize L[k]=x at *;simp only [Nat.add_zero] at d0;go_upto_region 6 with fail
   have hbV:Below wr.heap.size wr ((wr.alloc (.cells #[.int .i64 x.fr.1,.int .i64 x.fr.2,.int .i64 x.dst.1,.int .i64 x.dst.2,.int .i64 x.most,.int .i64 x.kind,.int .i64 x.id] 319)).alloc (.cells #[.int .i64 x.fr.1,.int .i64 x.fr.2,.int .i64 x.dst.1,.int .i64 x.dst.2] 141)):=Ba.alloc (by simp) _
   have XS:Bk ((wr.alloc (.cells #[.int .i64 x.fr.1,.int .i64 x.fr.2,.int .i64 x.dst.1,.int .i64 x.dst.2,.int .i64 x.most,.int .i64 x.kind,.int .i64 x.id] 319)).alloc (.cells #[.int .i64 x.fr.1,.int .i64 x.fr.2,.int .i64 x.dst.1,.int .i64 x.dst.2] 141)) (wr.heap.size+1) 141 #[.int .i64 x.fr.1,.int .i64 x.fr.2,.int .i64 x.dst.1,.int .i64 x.dst.2]:=Aa (by simp)
   have HJ0:Hid (GrJ w (gm+1) gm (gm+2) (some ⟨b6,o6,none⟩) c2 L ((L.take k).foldl addB []) k x.fr x.dst (wr.heap.size+1) 0 ((wr.alloc (.cells #[.int .i64 x.fr.1,.int .i64 x.fr.2,.int .i64 x.dst.1,.int .i64 x.dst.2,.int .i64 x.most,.int .i64 x.kind,.int .i64 x.id] 319)).alloc (.cells #[.int .i64 x.fr.1,.int .i64 x.fr.2,.int .i64 x.dst.1,.int .i64 x.dst.2] 141))):=Hd ⟨⟨B,b,HI.out.below hbV,fun _ e=>by
    have:=(HI.out.ow.lt _ e).2;omega⟩,fun _=>XS,by simp only [List.length_nil] at hnl;simp only [List.take_zero,List.foldl_nil];omega,by have:=HI.out.lt.2.2.2;omega⟩
   clear hbV XS d0 d1 d2 d3 d4 d5 d6 hb6 HI hnl;generalize ((wr.alloc (.cells #[.int .i64 x.fr.1,.int .i64 x.fr.2,.int .i64 x.dst.1,.int .i64 x.dst.2,.int .i64 x.most,.int .i64 x.kind,.int .i64 x.id] 319)).alloc (.cells #[.int .i64 x.fr.1,.int .i64 x.fr.2,.int .i64 x.dst.1,.int .i64 x.dst.2] 141))=V1 at *;generalize wr.heap.size=q7 at *;have HXB:Hid (([x.fr,x.dst].take 2).foldl addN ((L.take k).foldl addB [])=(L.take (k+1)).foldl addB []):=Hd (by rw [HX.out];rfl)
   clear HX;generalize (L.take k).foldl addB []=N0 at *;go_loopw [40] (fun v wr=>∃ j:Nat,j<=2/\v=.int .i64 j/\Hid (GrJ w (gm+1) gm (gm+2) (some ⟨b6,o6,none⟩) c2 L N0 k x.fr x.dst (q7+1) j wr)) (fun v _=>2 - (intOf v).toNat)
   case atStart=>exact ⟨0,by omega,rfl,HJ0⟩
   case round =>
    clear HJ0;obtain ⟨j,hj,rfl,HJ⟩:=hrel
    by_cases hltj:j<2
    ·have hjI:(j:Int)<2:=by omega
     obtain ⟨p,hp⟩:∃ p:Int×Int,[x.fr,x.dst].getD j (0,0)=p:=⟨_,rfl⟩;have hq:=HJ.out.sl hltj;have c0:wr.cell? ⟨q7+1,j*2,none⟩=some (.int .i64 p.1):=by
      rw [hq.cell,<- hp];obtain rfl | rfl:j=0\/j=1:=by omega
      ·rfl
      ·rfl
     have c1:wr.cell? ⟨q7+1,j*2+1,none⟩=some (.int .i64 p.2):=by
      rw [hq.cell,<- hp];obtain rfl | rfl:j=0\/j=1:=by omega
      ·rfl
      ·rfl
     have HNX:Hid (([x.fr,x.dst].take (j+1)).foldl addN N0=addN (([x.fr,x.dst].take j).foldl addN N0) p):=Hd (by
      rw [<- hp];obtain rfl | rfl:j=0\/j=1:=by omega
      ·rfl
      ·rfl)
     obtain ⟨B,b,hI,hne⟩:=HJ.out.ex;have hln:=HJ.out.ln;have HNE:=Hd hne;have HI:=Hd hI;have y1:=hI.bk.cell 1;have y2:=hI.bk.cell 2;have yl:=hI.bk.lt;simp at y1 y2;clear hp hq hne hI;generalize ([x.fr,x.dst].take j).foldl addN N0=N at *;go_upto_region 8 with fail
     have hb9:Below wr.heap.size wr (wr.alloc (.cells #[.int .i64 p.1,.int .i64 p.2] 141)):=Ba;have X9:Bk (wr.alloc (.cells #[.int .i64 p.1,.int .i64 p.2] 141)) wr.heap.size 141 #[.int .i64 p.1,.int .i64 p.2]:=Aa rfl;have HI9:=Hd (Ai (HI.out.below hb9) (Ai X9 (fun h:j<2=>(HJ.out.sl h).keep hb9)))
     have HLE:=Hd (Ai HJ.out.le (Kc HI.out.ow));have hq9:q7+1<wr.heap.size:=(HJ.out.sl hltj).lt;clear hb9 X9 HI HJ y1 y2 yl c0 c1;generalize (wr.alloc (.cells #[.int .i64 p.1,.int .i64 p.2] 141))=V9 at *;generalize wr.heap.size=q9 at *;have y1:=HI9.out.1.bk.cell 1;have y2:=HI9.out.1.bk.cell 2;have yl:=HI9.out.1.bk.lt;have z0:=HI9.out.2.1.cell 0;have z1:=HI9.out.2.1.cell 1;simp at y1 y2 z0 z1
     by_cases hp:p∈N
     ·have lk:=fun n:Nat=>look323t (w:=V9.drewN n) (HI9.out.1.mp.below (As (Below.refl _ _) n)) HI9.out.1.nd p.1 p.2 hp
      have HE:Hid (addN N p=N):=addN_of_mem hp;clear hp;go_quiet (fail);clear lk y1 y2 z0 z1;go_wp2_with fail;have HR:Hid (∀ n:Nat,GrJ w (gm+1) gm (gm+2) (some ⟨b6,o6,none⟩) c2 L N0 k x.fr x.dst (q7+1) (j+1) (V9.drewN n)):=Hd fun n=>⟨⟨B,b,by rw [HNX.out,HE.out];exact HI9.out.1.below (As (Below.refl _ _) n),fun h=>(by omega)⟩,fun h=>(HI9.out.2.2 (by omega)).drewN n,by rw [HNX.out,HE.out];omega,HLE.out.1⟩
      go_roundw
      case rel=>exact ⟨j+1,by omega,by go_num,Hd (HR.out nq)⟩
      case measure=>simp [intOf];omega
     ·have lk:=fun n:Nat=>look323f (w:=V9.drewN n) (HI9.out.1.mp.below (As (Below.refl _ _) n)) p.1 p.2 hp
      have HE:Hid (addN N p=N ++ [p]):=if_neg hp;have HP:=Hd hp;clear hp;go_quiet (fail);clear lk y1 y2 z0 z1 yl;have hbq:Below V9.heap.size V9 (V9.drewN nq):=As (Below.refl _ _) nq;have HI10:=Hd (Ai (HI9.out.1.below hbq) (Ai (HI9.out.2.1.keep hbq) (fun h:j<2=>(HI9.out.2.2 h).keep hbq)))
      clear HI9 hbq;generalize V9.drewN nq=V10 at *;have y1:=HI10.out.1.bk.cell 1;have y2:=HI10.out.1.bk.cell 2;have yl:=HI10.out.1.bk.lt;have z0:=HI10.out.2.1.cell 0;have z1:=HI10.out.2.1.cell 1;simp at y1 y2 z0 z1;obtain ⟨w12,hup,M12,far12,sz12,os12,tp12,ou12⟩:=upd323 (w:=V10.drew) (HI10.out.1.mp:Bv V10.drew gm (ixF N)) p.1 p.2 HP.out;have hgq:gm≠q9/\gm≠q7+1:=by have:=HI10.out.1.lt;have:=HLE.out.1;omega
      have HI12:=Hd (Ai (HI10.out.1.put M12 far12 sz12 os12 tp12 ou12) (Ai (show Bk w12 q9 141 #[.int .i64 p.1,.int .i64 p.2] from (far12 q9 (Ne.symm hgq.1)).trans HI10.out.2.1) (fun h:j<2=>(show Bk w12 (q7+1) 141 _ from (far12 (q7+1) (Ne.symm hgq.2)).trans (HI10.out.2.2 h)))))
      clear M12 far12 sz12 os12 tp12 ou12 hgq;go_upto_region 10 with fail
      go_region;clear hup y1 y2 z0 z1 yl;go_upto_region 11 with fail
      obtain ⟨i0,hi0,hz0,hz1,hz2⟩:=info_parts info141;have J5:=fun x:Ext w12=>HI12.out.1.below x.bel
      have y2:=fun x:Ext w12=>(show x.w.cell? ⟨gm+1,2,none⟩=some (.slice B N.length b) from ((J5 x).bk.cell 2).trans rfl)
      have z0:=fun x:Ext w12=>(show x.w.cell? ⟨q9,0,none⟩=some (.int .i64 p.1) from ((HI12.out.2.1.keep x.bel).cell 0).trans rfl)
      have z1:=fun x:Ext w12=>(show x.w.cell? ⟨q9,1,none⟩=some (.int .i64 p.2) from ((HI12.out.2.1.keep x.bel).cell 1).trans rfl)
      clear J5;refine Gy 1 5 6 _ (by kernel_rfl) (by kernel_rfl) rfl (fun _ _ d _ _ h=>by cases d<;>exact h) ?_
      simp only [List.take_succ_cons,List.take_zero,List.drop_succ_cons,List.drop_zero];repeat (go_big_quiet_step (fail))
      refine wpQuiet_nil ?_;refine ⟨rfl,?_⟩;rintro _ ⟨y6,rfl⟩;have hBx:Below w12.heap.size w12 (y6.w.alloc (.cells #[.int .i64 p.1,.int .i64 p.2] 141)):=y6.bel.alloc y6.bel.size _;refine ⟨.slice (some ⟨y6.w.heap.size,0,none⟩) 1 1,y6.w.alloc (.cells #[.int .i64 p.1,.int .i64 p.2] 141),by kernel_rfl,⟨⟨_,hBx⟩,rfl⟩,?_⟩
      clear y2 z0 z1;have I6:=HI12.out.1.below hBx;refine wpList_append_own _ rfl _ _ 324 rfl (gm+2) 141 i0 _ 2 16 Tryz.underlying324 hi0 hz0 hz1 hz2 rfl (by decide) (.slice B N.length b) N.length (Am N) rfl I6.ow ⟨y6.w.heap.size,0,none⟩ 1 1 [.int .i64 p.1,.int .i64 p.2] rfl rfl (Gb (Aa rfl)) (by simp [Value.oneCell']) (by unfold maxLen;omega) (by omega) I6.lt.2.2.2 ?_
      intro v6 w6 hown6 hg7 _;obtain ⟨A6,c6,rfl,_,_,_⟩:=Au hown6;have B7:Bk w6 (gm+1) 326 #[.slice (some ⟨b6,o6,none⟩) L.length c2,.map (some gm),.slice B N.length b]:=(hg7.block (gm+1) I6.bk.lt (Bl I6.ow I6.bk (by decide))).trans I6.bk
      have c4:=B7.cell 2;have f4:=B7.fz 2;have l4:=B7.lt;simp at c4;have HR:Hid (GrJ w (gm+1) gm (gm+2) (some ⟨b6,o6,none⟩) c2 L N0 k x.fr x.dst (q7+1) (j+1) (w6.setCell ⟨gm+1,2,none⟩ (.slice A6 (N.length+1) c6))):=Hd ⟨⟨A6,c6,by
       have e1:(N ++ [p]).length=N.length+1:=by simp
       rw [HNX.out,HE.out];exact I6.push hown6 hg7 HP.out,fun h=>(by omega)⟩,fun h=>by
        have hs:=(HI12.out.2.2 (by omega)).keep hBx
        have hgq:q7+1≠gm+1:=by have:=HLE.out.1;omega
        have h6:Bk w6 (q7+1) 141 _:=(hg7.block (q7+1) hs.lt fun e=>by
         have h0:j=0:=by omega
         exact HNE.out h0 e.symm).trans hs
        exact h6.far hgq _,by rw [HNX.out,HE.out];simp;omega,HLE.out.1⟩
      clear B7 I6 hown6 hg7 hBx HI12 hi0 hz0 hz1 hz2;go_wp2_with fail;go_roundw
      case rel=>exact ⟨j+1,by omega,by go_num,HR⟩
      case measure=>simp [intOf];omega
    ·obtain rfl:j=2:=by omega
     obtain ⟨B,b,hI,-⟩:=HJ.out.ex;rw [HXB.out] at hI;have HE:=Hd hI;clear hI HJ HXB;go_wp2_with fail;go_roundw
     case rel=>exact ⟨k+1,by omega,by go_num,B,b,HE⟩
     case measure=>simp [intOf];omega
  ·obtain rfl:k=L.length:=by omega
   have HE:Hid (GraphP D wd w (.returned (.pointer (some ⟨gm+1,0,none⟩))) wr):=Hd (by
    have h:=HI.out;rw [List.take_length] at h;refine ⟨h.bl,gm+1,rfl,?_⟩;rw [HLL.out];exact ⟨gm,A2,B,c2,b,h.bk,h.mp,h.rw⟩)
   clear HI;go_wp2_with fail;go_ret;exact HE.out
end Go.Proofs.YteihcodicfoiaaaGreat
